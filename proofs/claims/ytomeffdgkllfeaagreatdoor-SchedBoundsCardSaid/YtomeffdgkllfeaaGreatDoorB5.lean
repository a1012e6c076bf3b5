/- Machines and laws 5. -/
import Derived.Test.YtomeffdgkllfeaaGreatDoorB4
import Derived.Test.YtomeffdgkllfeaaGreatDoorB3
import Derived.ChangeArms
import Derived.ReadAgain
import Derived.ChangeSame
import Derived.Deep.DeepHandedRow
import Derived.Test.YtomeffdgkllfeaaGreatDoorB1
import Derived.KernelRfl
import Derived.Shelf.Strings.OnBuilder
import Derived.Shelf.Strings.Split
import Derived.Shelf.Bytes.SlIndexWhole
import Derived.Shelf.Pu.ParseUintPublic10
set_option linter.unusedVariables false
set_option linter.unusedSectionVars false
set_option linter.unusedSimpArgs false
set_option maxRecDepth 100000
namespace Go.Sx
open Go Go.Gx Go.Mx
variable [qk]
inductive Lf where
 |b (x:Bool)|i (x:Int)|c (x:UInt8)|s (x:List UInt8)|n (x:Nat)
 |l (u:U) (x:List (El u))|e (u:U) (x:El u)
inductive PV where
 |drop|bool|int (k:IntKind)|u8|str|cst (v:AV)
 |isl (u:U)|zcN (u:U) (fo:Nat)|ptr (loc off lim:Nat)|zdC (g off lim:Nat)|gs (loc n:Nat)|zh1 (loc n len:Nat)|sl (loc n:Nat) (c:Bool)|zed (loc n fo:Nat)|map (loc:Nat)
 |fn (f:FuncId) (a b:List PV)|ifc (t:TypeId) (p:PV)|agg (l:List PV)|tup (l:List PV)|yld (loc:Nat)
 deriving Inhabited
inductive PB where
 |cells (l:List PV) (md:Nat) (mk:Option TypeId:=none)|seq (u:U) (n md:Nat) (fx:Bool)|map (ks vs:List PV) (md:Nat)|kv (u v:U) (md:Nat)|loop (env:List PV) (id md:Nat)|gone
 deriving Inhabited
def zop(ph:List PB)(h:SH)(loc n k:Nat):Bool:=match ph[loc]?,h[loc]? with
 |some (.seq _ n' _ _),some (.seq _ _ m _)=>Nat.beq n' n&&Nat.beq m k
 |_,_=>false
mutual
def mV(ph:List PB)(h:SH):PV->SV->Option (List Lf)
 |.drop,_=>some []
 |.bool,.a (.bool b)=>some [.b b]
 |.int k,.a (.int k' n)=>if k=k' then some [.i n] else none
 |.u8,.u8 b=>some [.c b]
 |.str,.a (.str l)=>some [.s l]
 |.cst v,.a w=>match AV.beq v w with
  |true=>some []
  |false=>none
 |.isl u,.isl u' l=>match jg u' u l with
  |some l=>some [.l u l]
  |none=>none
 |.zcN u fo,.zcN u' x fo'=>if q:u'=u then(match Nat.beq fo fo' with|true=>some [.e u (q ▸ x)]|false=>none) else none
 |.ptr loc off lim,.ptr loc' off' lim'=>match Nat.beq loc loc'&&Nat.beq off off'&&Nat.beq lim lim'&&Nat.blt loc ph.length with
  |true=>some []
  |false=>none
 |.zdC g off lim,.zdC g' off' lim'=>match Nat.beq g g'&&Nat.beq off off'&&Nat.beq lim lim' with
  |true=>some []
  |false=>none
 |.gs loc n,.gs loc' k=>match Nat.beq loc loc'&&zop ph h loc n k with
  |true=>some []
  |false=>none
 |.zh1 loc n len,.zh1 loc' k len'=>match Nat.beq loc loc'&&zop ph h loc n k&&Nat.beq len len' with
  |true=>some []
  |false=>none
 |.sl loc n c,.sl loc' k off len c'=>match Nat.beq loc loc'&&zop ph h loc n k&&c==c' with
  |true=>some [.n off,.n len]
  |false=>none
 |.zed loc n fo,.zed loc' k i fo'=>match Nat.beq loc loc'&&zop ph h loc n k&&Nat.beq fo fo' with
  |true=>some [.n i]
  |false=>none
 |.map loc,.map loc'=>match Nat.beq loc loc'&&Nat.blt loc ph.length with
  |true=>some []
  |false=>none
 |.yld loc,.yld loc'=>match Nat.beq loc loc'&&Nat.blt loc ph.length with
  |true=>some []
  |false=>none
 |.fn f a b,.fn f' a' b'=>match Nat.beq f f',mVs ph h a a',mVs ph h b b' with
  |true,some x,some y=>some (x++y)
  |_,_,_=>none
 |.ifc t p,.ifc t' v=>match Nat.beq t t' with
  |true=>mV ph h p v
  |false=>none
 |.agg l,.agg l'=>mVs ph h l l'
 |.tup l,.tup l'=>mVs ph h l l'
 |_,_=>none
def mVs(ph:List PB)(h:SH):List PV->List SV->Option (List Lf)
 | [],[]=>some []
 |p::l,v::r=>match mV ph h p v,mVs ph h l r with
  |some x,some y=>some (x++y)
  |_,_=>none
 |_,_=>none
end
mutual
def iV:PV->List Lf->SV×List Lf
 |.bool,.b x::r=>(.a (.bool x),r)
 |.int k,.i x::r=>(.a (.int k x),r)
 |.u8,.c x::r=>(.u8 x,r)
 |.str,.s x::r=>(.a (.str x),r)
 |.cst v,r=>(.a v,r)
 |.isl u,.l u' x::r=>(.isl u' x,r)
 |.zcN u fo,.e u' x::r=>(.zcN u' x fo,r)
 |.ptr loc off lim,r=>(.ptr loc off lim,r)
 |.zdC loc off lim,r=>(.zdC loc off lim,r)
 |.gs loc n,r=>(.gs loc n,r)
 |.zh1 loc n len,r=>(.zh1 loc n len,r)
 |.sl loc n c,.n off::.n len::r=>(.sl loc n off len c,r)
 |.zed loc n fo,.n i::r=>(.zed loc n i fo,r)
 |.map loc,r=>(.map loc,r)
 |.yld loc,r=>(.yld loc,r)
 |.fn f a b,r=>(.fn f (iVs a r).1 (iVs b (iVs a r).2).1,(iVs b (iVs a r).2).2)
 |.ifc t p,r=>(.ifc t (iV p r).1,(iV p r).2)
 |.agg l,r=>(.agg (iVs l r).1,(iVs l r).2)
 |.tup l,r=>(.tup (iVs l r).1,(iVs l r).2)
 |_,r=>(.top,r)
def iVs:List PV->List Lf->List SV×List Lf
 | [],r=>([],r)
 |p::l,r=>((iV p r).1::(iVs l (iV p r).2).1,(iVs l (iV p r).2).2)
end
structure Mt(ph:List PB)(X Z:Gst):Prop where
 h:Z.h=X.h
 Φ:Z.Φ=X.Φ
 at_:∀ loc m,X.at loc m->loc<ph.length->Z.at loc m
 row:∀ (loc:Nat) (u:U) (n md:Nat) (fx:Bool) (u':U) (l:List (El u')) (k md':Nat),ph[loc]?=some (.seq u n md fx)->X.sh[loc]?=some (.seq u' l k md')->Z.sh[loc]?=some (.seq u' l n md')/\Z.σ[loc]?=X.σ[loc]?
theorem Mt.cur{ph:List PB}{X Z:Gst}(hM:Mt ph X Z){loc n k:Nat}(hr:zop ph X.sh loc n k=true){Q:(u:U)->Nat->Option (Nat×Nat)->Prop}(q:X.cur loc k Q):Z.cur loc n Q:=by
 unfold zop at hr
 split at hr
 ·rename_i u n' md fx u' l m md' hp hb
  simp only[Bool.and_eq_true] at hr
  have h1:=zd hr.1
  have h2:=zd hr.2
  subst h1;subst h2
  obtain⟨o,ho,hc⟩:=q
  obtain⟨h3,h4⟩:=hM.row loc u n' md fx u' l m md' hp hb
  refine⟨o,h4.trans ho,fun u2 l2 k2 md2 hb2=>?_⟩
  rw[h3] at hb2;cases hb2
  exact⟨Nat.le_refl _,fun _=>(hc _ _ _ _ hb).2 rfl⟩
 ·cases hr
mutual
theorem zhK{ph:List PB}{X Z:Gst}(hM:Mt ph X Z):∀ (p:PV) {v:SV} {ls:List Lf} {x:AV},mV ph X.sh p v=some ls->RV X v x->∀ r,∃ w,iV p (ls++r)=(w,r)/\RV Z w x
 |.drop,v,ls,x,h,hv,r=>by simp [mV] at h;subst h;exact⟨.top,rfl,trivial⟩
 |.bool,v,ls,x,h,hv,r=>by
  cases v<;>first|(simp [mV] at h;done)|skip
  rename_i w;cases w<;>first|(simp [mV] at h;done)|skip
  simp [mV] at h;subst h;exact⟨_,rfl,hv⟩
 |.int k,v,ls,x,h,hv,r=>by
  cases v<;>first|(simp [mV] at h;done)|skip
  rename_i w;cases w<;>first|(simp [mV] at h;done)|skip
  simp [mV] at h;obtain⟨rfl,rfl⟩:=h;exact⟨_,rfl,hv⟩
 |.u8,v,ls,x,h,hv,r=>by
  cases v<;>first|(simp [mV] at h;done)|skip
  simp [mV] at h;subst h;exact⟨_,rfl,hv⟩
 |.str,v,ls,x,h,hv,r=>by
  cases v<;>first|(simp [mV] at h;done)|skip
  rename_i w;cases w<;>first|(simp [mV] at h;done)|skip
  simp [mV] at h;subst h;exact⟨_,rfl,hv⟩
 |.cst c,v,ls,x,h,hv,r=>by
  cases v<;>first|(simp [mV] at h;done)|skip
  simp only[mV] at h
  split at h
  ·rename_i hb;cases h;exact⟨_,rfl,by rw[AV.beq_eq _ _ hb];exact hv⟩
  ·cases h
 |.isl u,v,ls,x,h,hv,r=>by
  cases v<;>first|(simp [mV] at h;done)|skip
  simp only[mV] at h
  split at h
  ·rename_i l hc
   obtain⟨e1,e2⟩:=zy hc
   subst e1;cases e2;cases h
   exact⟨_,rfl,by show RSl Z.h Z.Φ _ _ _ _;rw[hM.h,hM.Φ];exact hv⟩
  ·cases h
 |.zcN u fo,v,ls,x,h,hv,r=>by
  cases v<;>first|(simp [mV] at h;done)|skip
  simp only[mV] at h
  split at h
  ·rename_i hq
   subst hq
   split at h
   ·rename_i hfo
    have hfo:=zd hfo
    subst hfo
    cases h
    obtain⟨m,off,ver,lim,cs,h1,h2,h3,h4,h5,h6⟩:=hv
    exact⟨_,rfl,m,off,ver,lim,cs,h1,by rw[hM.Φ];exact h2,h3,by rw[hM.h];exact h4,h5,by rw[hM.h,hM.Φ];exact h6⟩
   ·cases h
  ·cases h
 |.ptr loc off lim,v,ls,x,h,hv,r=>by
  cases v<;>first|(simp [mV] at h;done)|skip
  simp only[mV] at h
  split at h
  ·rename_i hb
   simp only[Bool.and_eq_true] at hb
   obtain⟨⟨⟨h1,h2⟩,h3⟩,h4⟩:=hb
   have h1:=zd h1;have h2:=zd h2;have h3:=zd h3
   subst h1;subst h2;subst h3;cases h
   obtain⟨m,q1,q2⟩:=hv
   exact⟨_,rfl,m,hM.at_ _ _ q1 (qo h4),q2⟩
  ·cases h
 |.zdC g off lim,v,ls,x,h,hv,r=>by
  cases v<;>first|(simp [mV] at h;done)|skip
  simp only[mV] at h
  split at h
  ·rename_i hb
   simp only[Bool.and_eq_true] at hb
   obtain⟨⟨h1,h2⟩,h3⟩:=hb
   have h1:=zd h1;have h2:=zd h2;have h3:=zd h3
   subst h1;subst h2;subst h3;cases h
   exact⟨_,rfl,hv⟩
  ·cases h
 |.zh1 loc n len,v,ls,x,h,hv,r=>by
  cases v<;>first|(simp [mV] at h;done)|skip
  simp only[mV] at h
  split at h
  ·rename_i hb
   simp only[Bool.and_eq_true] at hb
   obtain⟨⟨h1,h2⟩,h3⟩:=hb
   have h1:=zd h1;have h3:=zd h3
   subst h1;subst h3;cases h
   exact⟨_,rfl,hv.1,hM.cur h2 hv.2⟩
  ·cases h
 |.gs loc n,v,ls,x,h,hv,r=>by
  cases v<;>first|(simp [mV] at h;done)|skip
  simp only[mV] at h
  split at h
  ·rename_i hb
   simp only[Bool.and_eq_true] at hb
   have h1:=zd hb.1
   subst h1;cases h
   exact⟨_,rfl,hv.1,hM.cur hb.2 hv.2⟩
  ·cases h
 |.sl loc n c,v,ls,x,h,hv,r=>by
  cases v<;>first|(simp [mV] at h;done)|skip
  simp only[mV] at h
  split at h
  ·rename_i hb
   simp only[Bool.and_eq_true,beq_iff_eq] at hb
   obtain⟨⟨h1,h2⟩,rfl⟩:=hb
   have h1:=zd h1
   subst h1;cases h
   exact⟨_,rfl,hv.1,hM.cur h2 hv.2⟩
  ·cases h
 |.zed loc n fo,v,ls,x,h,hv,r=>by
  cases v<;>first|(simp [mV] at h;done)|skip
  simp only[mV] at h
  split at h
  ·rename_i hb
   simp only[Bool.and_eq_true] at hb
   obtain⟨⟨h1,h2⟩,h3⟩:=hb
   have h1:=zd h1;have h3:=zd h3
   subst h1;subst h3;cases h
   exact⟨_,rfl,hv.1,hM.cur h2 hv.2⟩
  ·cases h
 |.map loc,v,ls,x,h,hv,r=>by
  cases v<;>first|(simp [mV] at h;done)|skip
  simp only[mV] at h
  split at h
  ·rename_i hb
   simp only[Bool.and_eq_true] at hb
   have h1:=zd hb.1
   subst h1;cases h
   obtain⟨m,q1,q2⟩:=hv
   exact⟨_,rfl,m,hM.at_ _ _ q1 (qo hb.2),q2⟩
  ·cases h
 |.yld loc,v,ls,x,h,hv,r=>by
  cases v<;>first|(simp [mV] at h;done)|skip
  simp only[mV] at h
  split at h
  ·rename_i hb
   simp only[Bool.and_eq_true] at hb
   have h1:=zd hb.1
   subst h1;cases h
   obtain⟨m,q1,q2⟩:=hv
   exact⟨_,rfl,m,hM.at_ _ _ q1 (qo hb.2),q2⟩
  ·cases h
 |.fn f a b,v,ls,x,h,hv,r=>by
  cases v<;>first|(simp [mV] at h;done)|skip
  simp only[mV] at h
  split at h
  ·rename_i l1 l2 hf h1 h2
   have hf:=zd hf
   subst hf;cases h
   obtain⟨a',b',rfl,q1,q2⟩:=hv
   obtain⟨wa,e1,q3⟩:=qK hM a h1 q1 (l2++r)
   obtain⟨wb,e2,q4⟩:=qK hM b h2 q2 r
   refine⟨.fn f wa wb,?_,a',b',rfl,q3,q4⟩
   simp only[iV,List.append_assoc,e1,e2]
  ·cases h
 |.ifc t p,v,ls,x,h,hv,r=>by
  cases v<;>first|(simp [mV] at h;done)|skip
  simp only[mV] at h
  split at h
  ·rename_i ht
   have ht:=zd ht
   subst ht
   obtain⟨y,rfl,q1⟩:=hv
   obtain⟨w,e1,q2⟩:=zhK hM p h q1 r
   exact⟨.ifc t w,by simp only[iV,e1],y,rfl,q2⟩
  ·cases h
 |.agg l,v,ls,x,h,hv,r=>by
  cases v<;>first|(simp [mV] at h;done)|skip
  simp only[mV] at h
  obtain⟨y,rfl,q1⟩:=hv
  obtain⟨w,e1,q2⟩:=qK hM l h q1 r
  exact⟨.agg w,by simp only[iV,e1],y,rfl,q2⟩
 |.tup l,v,ls,x,h,hv,r=>by
  cases v<;>first|(simp [mV] at h;done)|skip
  simp only[mV] at h
  obtain⟨y,rfl,q1⟩:=hv
  obtain⟨w,e1,q2⟩:=qK hM l h q1 r
  exact⟨.tup w,by simp only[iV,e1],y,rfl,q2⟩
theorem qK{ph:List PB}{X Z:Gst}(hM:Mt ph X Z):∀ (p:List PV) {v:List SV} {ls:List Lf} {x:List AV},mVs ph X.sh p v=some ls->RVs X v x->∀ r,∃ w,iVs p (ls++r)=(w,r)/\RVs Z w x
 | [],v,ls,x,h,hv,r=>by
  cases v with
  |nil=>simp [mVs] at h;subst h;exact⟨[],rfl,hv⟩
  |cons=>simp [mVs] at h
 |p::l,v,ls,x,h,hv,r=>by
  cases v with
  |nil=>simp [mVs] at h
  |cons v vs=>
   simp only[mVs] at h
   split at h
   ·rename_i l1 l2 h1 h2
    cases h
    obtain⟨y,ys,rfl,q1,q2⟩:=hv
    obtain⟨wa,e1,q3⟩:=zhK hM p h1 q1 (l2++r)
    obtain⟨wb,e2,q4⟩:=qK hM l h2 q2 r
    refine⟨wa::wb,?_,y,ys,rfl,q3,q4⟩
    simp only[iVs,List.append_assoc,e1,e2]
   ·cases h
end
end Go.Sx
namespace Go.Sx
open Go Go.Gx Go.Mx
variable [qk]
mutual
theorem zoM{ph:List PB}{h0:SH}:∀ (p:PV) {v:SV} {ls:List Lf},mV ph h0 p v=some ls->∀ r,∃ w,iV p (ls++r)=(w,r)
 |.drop,v,ls,h,r=>by simp [mV] at h;subst h;exact⟨_,rfl⟩
 |.bool,v,ls,h,r=>by
  cases v<;>first|(simp [mV] at h;done)|skip
  rename_i w;cases w<;>first|(simp [mV] at h;done)|skip
  simp [mV] at h;subst h;exact⟨_,rfl⟩
 |.int k,v,ls,h,r=>by
  cases v<;>first|(simp [mV] at h;done)|skip
  rename_i w;cases w<;>first|(simp [mV] at h;done)|skip
  simp [mV] at h;obtain⟨rfl,rfl⟩:=h;exact⟨_,rfl⟩
 |.u8,v,ls,h,r=>by
  cases v<;>first|(simp [mV] at h;done)|skip
  simp [mV] at h;subst h;exact⟨_,rfl⟩
 |.str,v,ls,h,r=>by
  cases v<;>first|(simp [mV] at h;done)|skip
  rename_i w;cases w<;>first|(simp [mV] at h;done)|skip
  simp [mV] at h;subst h;exact⟨_,rfl⟩
 |.cst c,v,ls,h,r=>by
  cases v<;>first|(simp [mV] at h;done)|skip
  simp only[mV] at h
  split at h
  ·cases h;exact⟨_,rfl⟩
  ·cases h
 |.isl u,v,ls,h,r=>by
  cases v<;>first|(simp [mV] at h;done)|skip
  simp only[mV] at h
  split at h
  ·cases h;exact⟨_,rfl⟩
  ·cases h
 |.ptr loc off lim,v,ls,h,r=>by
  cases v<;>first|(simp [mV] at h;done)|skip
  simp only[mV] at h
  split at h
  ·cases h;exact⟨_,rfl⟩
  ·cases h
 |.zdC g off lim,v,ls,h,r=>by
  cases v<;>first|(simp [mV] at h;done)|skip
  simp only[mV] at h
  split at h
  ·cases h;exact⟨_,rfl⟩
  ·cases h
 |.zh1 loc n len,v,ls,h,r=>by
  cases v<;>first|(simp [mV] at h;done)|skip
  simp only[mV] at h
  split at h
  ·cases h;exact⟨_,rfl⟩
  ·cases h
 |.gs loc n,v,ls,h,r=>by
  cases v<;>first|(simp [mV] at h;done)|skip
  simp only[mV] at h
  split at h
  ·cases h;exact⟨_,rfl⟩
  ·cases h
 |.sl loc n c,v,ls,h,r=>by
  cases v<;>first|(simp [mV] at h;done)|skip
  simp only[mV] at h
  split at h
  ·cases h;exact⟨_,rfl⟩
  ·cases h
 |.zed loc n fo,v,ls,h,r=>by
  cases v<;>first|(simp [mV] at h;done)|skip
  simp only[mV] at h
  split at h
  ·cases h;exact⟨_,rfl⟩
  ·cases h
 |.map loc,v,ls,h,r=>by
  cases v<;>first|(simp [mV] at h;done)|skip
  simp only[mV] at h
  split at h
  ·cases h;exact⟨_,rfl⟩
  ·cases h
 |.yld loc,v,ls,h,r=>by
  cases v<;>first|(simp [mV] at h;done)|skip
  simp only[mV] at h
  split at h
  ·cases h;exact⟨_,rfl⟩
  ·cases h
 |.zcN u fo,v,ls,h,r=>by
  cases v<;>first|(simp [mV] at h;done)|skip
  simp only[mV] at h
  split at h
  ·split at h
   ·cases h;exact⟨_,rfl⟩
   ·cases h
  ·cases h
 |.fn f a b,v,ls,h,r=>by
  cases v<;>first|(simp [mV] at h;done)|skip
  simp only[mV] at h
  split at h
  ·rename_i l1 l2 hf h1 h2
   cases h
   obtain⟨wa,e1⟩:=xJ a h1 (l2++r)
   obtain⟨wb,e2⟩:=xJ b h2 r
   exact⟨.fn f wa wb,by simp only[iV,List.append_assoc,e1,e2]⟩
  ·cases h
 |.ifc t p,v,ls,h,r=>by
  cases v<;>first|(simp [mV] at h;done)|skip
  simp only[mV] at h
  split at h
  ·obtain⟨w,e1⟩:=zoM p h r
   exact⟨.ifc t w,by simp only[iV,e1]⟩
  ·cases h
 |.agg l,v,ls,h,r=>by
  cases v<;>first|(simp [mV] at h;done)|skip
  simp only[mV] at h
  obtain⟨w,e1⟩:=xJ l h r
  exact⟨.agg w,by simp only[iV,e1]⟩
 |.tup l,v,ls,h,r=>by
  cases v<;>first|(simp [mV] at h;done)|skip
  simp only[mV] at h
  obtain⟨w,e1⟩:=xJ l h r
  exact⟨.tup w,by simp only[iV,e1]⟩
theorem xJ{ph:List PB}{h0:SH}:∀ (p:List PV) {v:List SV} {ls:List Lf},mVs ph h0 p v=some ls->∀ r,∃ w,iVs p (ls++r)=(w,r)
 | [],v,ls,h,r=>by
  cases v with
  |nil=>simp [mVs] at h;subst h;exact⟨[],rfl⟩
  |cons=>simp [mVs] at h
 |p::l,v,ls,h,r=>by
  cases v with
  |nil=>simp [mVs] at h
  |cons v vs=>
   simp only[mVs] at h
   split at h
   ·rename_i l1 l2 h1 h2
    cases h
    obtain⟨wa,e1⟩:=zoM p h1 (l2++r)
    obtain⟨wb,e2⟩:=xJ l h2 r
    exact⟨wa::wb,by simp only[iVs,List.append_assoc,e1,e2]⟩
   ·cases h
end
theorem zjr{X Z:Gst}(hh:Z.h=X.h)(hΦ:Z.Φ=X.Φ):∀ (u:U) (x:El u) {ys:List AV},RVs X (enc u x) ys->RVs Z (enc u x) ys
 |.bool,_,_,q=>q
 |.int _,_,_,q=>q
 |.u8,_,_,q=>q
 |.str,_,_,q=>q
 |.slc u,l,_,⟨y,ys,e,q1,q2⟩=>⟨y,ys,e,by show ∃ c,RSl Z.h Z.Φ c u l y;rw[hh,hΦ];exact q1,q2⟩
 |.sl u,l,_,⟨y,ys,e,q1,q2⟩=>⟨y,ys,e,by show RSl Z.h Z.Φ false u l y;rw[hh,hΦ];exact q1,q2⟩
 |.pair u v,x,_,q=>by
  rename_i ys
  have h1:=q.take (enc u x.1).length
  have h2:=q.drop (enc u x.1).length
  rw[show enc (.pair u v) x=enc u x.1++enc v x.2 from rfl] at h1 h2
  rw[List.take_left] at h1
  rw[List.drop_left] at h2
  have:=(zjr hh hΦ u x.1 h1).append (zjr hh hΦ v x.2 h2)
  rwa [List.take_append_drop] at this
 |.unit,_,_,q=>q
theorem zok{X Z:Gst}(hh:Z.h=X.h)(hΦ:Z.Φ=X.Φ):∀ (u:U) (x:El u) {y:AV},RV X (zge u x) y->RV Z (zge u x) y
 |.bool,_,_,q=>q
 |.int _,_,_,q=>q
 |.u8,_,_,q=>q
 |.str,_,_,q=>q
 |.slc u,l,y,q=>by show ∃ c,RSl Z.h Z.Φ c u l y;rw[hh,hΦ];exact q
 |.sl u,l,y,q=>by show RSl Z.h Z.Φ false u l y;rw[hh,hΦ];exact q
 |.pair u v,x,_,⟨ys,e,q⟩=>⟨ys,e,zjr hh hΦ (.pair u v) x q⟩
 |.unit,_,_,q=>q
theorem znx{α:Type}{X Z:Gst}(hh:Z.h=X.h)(hΦ:Z.Φ=X.Φ)(u:U)(f:α->El u):∀ (l:List α) {ys:List AV},RVs X (l.map fun p=>zge u (f p)) ys->RVs Z (l.map fun p=>zge u (f p)) ys
 | [],_,q=>q
 |p::l,_,⟨y,ys,e,q1,q2⟩=>⟨y,ys,e,zok hh hΦ u _ q1,znx hh hΦ u f l q2⟩
def mB(ph:List PB)(h:SH):PB->SB->Option (List Lf)
 |.cells l md mk,.cells l' md' mk'=>match Nat.beq md md'&&mkB mk mk' with
  |true=>mVs ph h l l'
  |false=>none
 |.loop pe id md,.loop e id' md'=>match Nat.beq md md'&&Nat.beq id id' with
  |true=>mVs ph h pe e
  |false=>none
 |.seq u n md fx,.seq u' l k md'=>match Nat.beq md md'&&((!fx||Nat.beq k n)&&mkB (mkS n) (mkS k)),jg u' u l with
  |true,some l=>some [.l u l]
  |_,_=>none
 |.map ks vs md,.map ks' vs' md'=>match Nat.beq md md',mVs ph h ks ks',mVs ph h vs vs' with
  |true,some a,some b=>some (a++b)
  |_,_,_=>none
 |.kv u v md,b=>match b with
  |.kv u' v' l md'=>match Nat.beq md md',jg (.pair u' v') (.pair u v) l with
   |true,some l=>some [.l (.pair u v) l]
   |_,_=>none
  |.map ks vs md'=>match Nat.beq md md',ks,vs with
   |true,[],[]=>some [.l (.pair u v) []]
   |_,_,_=>none
  |_=>none
 |.gone,_=>some []
 |_,_=>none
def mBs(ph:List PB)(h:SH):List PB->List SB->Option (List Lf)
 | [],_=>some []
 |p::l,b::r=>match mB ph h p b,mBs ph h l r with
  |some x,some y=>some (x++y)
  |_,_=>none
 |_,_=>none
def iB:PB->List Lf->SB×List Lf
 |.cells l md mk,r=>(.cells (iVs l r).1 md mk,(iVs l r).2)
 |.seq u n md fx,.l u' x::r=>(.seq u' x n md,r)
 |.map ks vs md,r=>(.map (iVs ks r).1 (iVs vs (iVs ks r).2).1 md,(iVs vs (iVs ks r).2).2)
 |.kv u v md,.l (.pair u' v') x::r=>(.kv u' v' x md,r)
 |.loop pe id md,r=>(.loop (iVs pe r).1 id md,(iVs pe r).2)
 |_,r=>(.gone,r)
def iBs:List PB->List Lf->List SB×List Lf
 | [],r=>([],r)
 |p::l,r=>((iB p r).1::(iBs l (iB p r).2).1,(iBs l (iB p r).2).2)
structure PS where
 env:List PV
 h:List PB
def mS(p:PS)(st:SS):Option (List Lf):=match mVs p.h st.h p.env st.env,mBs p.h st.h p.h st.h with
 |some x,some y=>some (x++y)
 |_,_=>none
def iS(p:PS)(ls:List Lf):SS:=⟨(iVs p.env ls).1,(iBs p.h (iVs p.env ls).2).1⟩
def Lk(pb:PB)(b b':SB):Prop:=(pb=.gone/\b'=.gone) \/
 (∃ l l' md mk mk',mkB mk mk'=true/\b=.cells l md mk'/\b'=.cells l' md mk/\∃ pl,pb=.cells pl md mk)\/(∃ u l k n md,b=.seq u l k md/\b'=.seq u l n md/\∃ fx,pb=.seq u n md fx/\(fx=true->k=n)/\mkB (mkS n) (mkS k)=true)\/(∃ ks vs ks' vs' md,b=.map ks vs md/\b'=.map ks' vs' md/\∃ pk pv,pb=.map pk pv md)\/(∃ u v l md,((∃ l',b=.kv u v l' md)\/b=.map [] [] md)/\b'=.kv u v l md/\pb=.kv u v md)\/(∃ e e' id md,b=.loop e id md/\b'=.loop e' id md/\∃ pe,pb=.loop pe id md)
theorem zoL{ph:List PB}{h0:SH}{p:PB}{b:SB}{ls:List Lf}(h:mB ph h0 p b=some ls)(r:List Lf):∃ w,iB p (ls++r)=(w,r)/\Lk p b w:=by
 unfold mB at h
 split at h
 ·split at h
  ·rename_i l md mk l' md' mk' _ hb
   simp only[Bool.and_eq_true] at hb
   obtain⟨hb,hmk⟩:=hb
   have hb:=zd hb
   subst hb
   obtain⟨w,e⟩:=xJ _ h r
   exact⟨.cells w md mk,by simp only[iB,e],.inr (.inl ⟨_,_,_,_,_,hmk,rfl,rfl,_,rfl⟩)⟩
  ·cases h
 ·split at h
  ·rename_i pe id md e id' md' _ hb
   simp only[Bool.and_eq_true] at hb
   cases zd hb.1;cases zd hb.2
   obtain⟨w,e⟩:=xJ _ h r
   exact⟨.loop w id md,by simp only[iB,e],.inr (.inr (.inr (.inr (.inr ⟨_,_,_,_,rfl,rfl,_,rfl⟩))))⟩
  ·cases h
 ·split at h
  ·rename_i u n md fx u' l k md' _ _ l2 hb hc
   simp only[Bool.and_eq_true,Bool.or_eq_true,Bool.not_eq_true'] at hb
   obtain⟨hb,hfx,hmk⟩:=hb
   have hb:=zd hb
   subst hb
   obtain⟨e1,e2⟩:=zy hc
   subst e1;cases e2;cases h
   exact⟨.seq u' l n md,rfl,.inr (.inr (.inl ⟨_,_,_,_,_,rfl,rfl,_,rfl,fun e=>hfx.elim (fun h=>by rw[e] at h;cases h) zd,hmk⟩))⟩
  ·cases h
 ·split at h
  ·rename_i ks vs md ks' vs' md' _ _ _ a b' hb h1 h2
   have hb:=zd hb
   subst hb
   cases h
   obtain⟨w1,e1⟩:=xJ _ h1 (b'++r)
   obtain⟨w2,e2⟩:=xJ _ h2 r
   exact⟨.map w1 w2 md,by simp only[iB,List.append_assoc,e1,e2],.inr (.inr (.inr (.inl ⟨_,_,_,_,_,rfl,rfl,_,_,rfl⟩)))⟩
  ·cases h
 ·rename_i u v md
  split at h
  ·split at h
   ·rename_i u' v' l' md' _ _ l2 hb hc
    have hb:=zd hb
    subst hb
    obtain⟨e1,e2⟩:=zy hc
    cases e1;cases e2;cases h
    exact⟨.kv u v l' md,rfl,.inr (.inr (.inr (.inr (.inl ⟨_,_,_,_,.inl ⟨_,rfl⟩,rfl,rfl⟩))))⟩
   ·cases h
  ·split at h
   ·rename_i ks vs md' hb
    have hb:=zd hb
    subst hb
    cases h
    exact⟨.kv u v [] md,rfl,.inr (.inr (.inr (.inr (.inl ⟨_,_,_,_,.inr rfl,rfl,rfl⟩))))⟩
   ·cases h
  ·cases h
 ·cases h;exact⟨.gone,rfl,.inl ⟨rfl,rfl⟩⟩
 ·cases h
theorem zmI{ph:List PB}{h0:SH}:∀ {pl:List PB} {bl:List SB} {ls:List Lf},mBs ph h0 pl bl=some ls->∀ r,∃ zs,iBs pl (ls++r)=(zs,r)/\zs.length=pl.length/\pl.length<=bl.length/\∀ (i:Nat) (b':SB),zs[i]?=some b'->∃ pb b,pl[i]?=some pb/\bl[i]?=some b/\Lk pb b b'
 | [],bl,ls,h,r=>by simp [mBs] at h;subst h;exact⟨[],rfl,rfl,Nat.zero_le _,fun i b' h=>by simp at h⟩
 |p::pl,bl,ls,h,r=>by
  cases bl with
  |nil=>simp [mBs] at h
  |cons b bl=>
   simp only[mBs] at h
   split at h
   ·rename_i l1 l2 h1 h2
    cases h
    obtain⟨w,e1,k1⟩:=zoL h1 (l2++r)
    obtain⟨zs,e2,k2,k3,k4⟩:=zmI h2 r
    refine⟨w::zs,by simp only[iBs,List.append_assoc,e1,e2],by simp [k2],by simp [k3],fun i b' hi=>?_⟩
    cases i with
    |zero=>simp at hi;subst hi;exact⟨p,b,rfl,rfl,k1⟩
    |succ i=>simpa using k4 i b' (by simpa using hi)
   ·cases h
theorem zlA{ph:List PB}{X Z:Gst}(hM:Mt ph X Z){p:PB}{b:SB}{ls:List Lf}(h:mB ph X.sh p b=some ls){o:Option (Nat×Nat)}(hB:RB X b o)(r:List Lf):RB Z (iB p (ls++r)).1 o:=by
 unfold mB at h
 split at h
 ·split at h
  ·rename_i hb
   simp only[Bool.and_eq_true] at hb
   obtain⟨m,l',tt,e,h1,h2⟩:=hB
   obtain⟨w,e1,q⟩:=qK hM _ h h2 r
   obtain⟨tt',htt⟩:=zjY hb.2 tt
   simp only[iB,e1]
   exact⟨m,l',tt',e,by rw[hM.h,<- htt];exact h1,q⟩
  ·cases h
 ·split at h
  ·obtain⟨m,env',ps,asg,body,e,h1,h2,h3⟩:=hB
   rename_i hb
   simp only[Bool.and_eq_true] at hb
   cases zd hb.2
   obtain⟨w,e1,q⟩:=qK hM _ h h3 r
   simp only[iB,e1]
   exact⟨m,env',ps,asg,body,e,h1,by rw[hM.h];exact h2,q⟩
  ·cases h
 ·split at h
  ·rename_i u n md fx u' l k md' _ _ l2 hb hc
   obtain⟨e1,e2⟩:=zy hc
   subst e1;cases e2;cases h
   simp only[Bool.and_eq_true] at hb
   obtain⟨hb,_,hmk⟩:=hb
   have hb:=zd hb
   subst hb
   cases o with
   |none=>exact hB
   |some p=>
    obtain⟨m,ver⟩:=p
    obtain⟨cells,minv,tt,h1,h2,h3,h4⟩:=hB
    obtain⟨tt',htt⟩:=zjY hmk tt
    refine⟨cells,minv,tt',by rw[hM.h,<- htt];exact h1,h2,by rw[hM.h,hM.Φ];exact h3,fun e=>by rw[hM.Φ];exact h4 e⟩
  ·cases h
 ·split at h
  ·rename_i ks vs md ks' vs' md' _ _ _ a b' hb h1 h2
   cases h
   obtain⟨m,es,e,q1,q2,q3⟩:=hB
   obtain⟨w1,e1,r1⟩:=qK hM _ h1 q2 (b'++r)
   obtain⟨w2,e2,r2⟩:=qK hM _ h2 q3 r
   simp only[iB,List.append_assoc,e1,e2]
   exact⟨m,es,e,by rw[hM.h];exact q1,r1,r2⟩
  ·cases h
 ·rename_i u v md
  split at h
  ·split at h
   ·rename_i u' v' l' md' _ _ l2 hb hc
    obtain⟨e1,e2⟩:=zy hc
    cases e1;cases e2;cases h
    have hb:=zd hb
    subst hb
    obtain⟨m,es,e,q1,q2,q3⟩:=hB
    exact⟨m,es,e,by rw[hM.h];exact q1,znx hM.h hM.Φ _ _ _ q2,znx hM.h hM.Φ _ _ _ q3⟩
   ·cases h
  ·split at h
   ·rename_i hb
    cases h
    obtain⟨m,es,e,q1,q2,q3⟩:=hB
    exact⟨m,es,e,by rw[hM.h];exact q1,q2,q3⟩
   ·cases h
  ·cases h
 ·trivial
 ·cases h
theorem zft{ph:List PB}{X Z:Gst}(hM:Mt ph X Z):∀ {pl:List PB} {bl:List SB} {ls:List Lf},mBs ph X.sh pl bl=some ls->∀ (r:List Lf) (i:Nat) (b b':SB) (o:Option (Nat×Nat)),(iBs pl (ls++r)).1[i]?=some b'->bl[i]?=some b->RB X b o->RB Z b' o
 | [],bl,ls,h,r,i,b,b',o,hz,hb,hB=>by simp [iBs] at hz
 |p::pl,bl,ls,h,r,i,b,b',o,hz,hb,hB=>by
  cases bl with
  |nil=>simp [mBs] at h
  |cons b0 bl=>
   simp only[mBs] at h
   split at h
   ·rename_i l1 l2 h1 h2
    cases h
    obtain⟨w,e1,k1⟩:=zoL h1 (l2++r)
    cases i with
    |zero=>
     simp only[List.getElem?_cons_zero,Option.some.injEq] at hb
     subst hb
     simp only[iBs,List.getElem?_cons_zero,Option.some.injEq,List.append_assoc] at hz
     subst hz
     exact zlA hM h1 hB _
    |succ i=>
     simp only[iBs,List.getElem?_cons_succ,List.append_assoc,e1] at hz
     exact zft hM h2 r i b b' o hz (by simpa using hb) hB
   ·cases h
end Go.Sx
namespace Go.Sx
open Go Go.Gx Go.Mx
variable [qk]
theorem Dk.zrq{k:Nat×Option Nat}{X:Gst}{h:zb}{Φ:Nat->Prop}{σ:List (Option (Nat×Nat))}{sh:SH}{dl:List Dfd}{rnd:Option Nat}(q:Dk k X dl rnd)(hh:h=X.h)(hΦ:Φ=X.Φ)
  (hσ:∀ (i:Nat) (o:Option (Nat×Nat)),σ[i]?=some o->X.σ[i]?=some o) (hz:∀ (i m v:Nat) (b:SB),sh[i]?=some b->σ[i]?=some (some (m,v))->k.2=some m->Kp X m->b=.gone):Dk k ⟨h,Φ,σ,sh⟩ dl rnd:=by
 subst hh;subst hΦ
 exact⟨q.base,q.nd,fun d hd=>let⟨m,h1,h2,h3,h4,h5⟩:=q.dl d hd;⟨m,h1,h2,h3,⟨h4.lt,h4.phi,fun i v b hb ho=>absurd (hσ i _ ho) (h5 i v)⟩,fun i v e=>h5 i v (hσ i _ e)⟩,q.rnd,fun m hm=>let⟨h1,h2⟩:=q.lo m hm;⟨h1,h2.lt,h2.phi,fun i v b hb ho=>hz i m v b hb ho hm h2⟩⟩
theorem weaken{X0 Y:Gst}(hr0:RH X0)(hS:Stp X0 Y){q:PS}{st:SS}{ms:St}{k0:Nat×Option Nat}(hst:StR k0 Y st ms){os:List Lf}(hm:mS q st=some os)(hlen:X0.sh.length<=q.h.length)
  (hver:∀ (loc:Nat) (u:U) (n md:Nat) (fx:Bool),q.h[loc]?=some (.seq u n md fx)->loc<X0.sh.length->∃ u' l k md',X0.sh[loc]?=some (.seq u' l k md')/\(k<n\/(fx=true/\k=n)))
  (K:Nat->Bool) (hK:∀ i,K i=true->i<X0.sh.length/\Y.sh[i]?=some .gone/\Y.σ[i]?=X0.σ[i]? /\ ∀ m v,X0.σ[i]?=some (some (m,v))->Y.h[m]?=X0.h[m]? /\ (Y.Φ m->X0.Φ m))
  (hlo:∀ m,k0.2=some m->Kp X0 m) {zh:SH} (hzl:zh.length=(iS q os).h.length) (hz:∀ i,zh[i]?=if K i=true then X0.sh[i]? else(iS q os).h[i]?):
  ∃ Z,Stp X0 Z/\StR k0 Z ⟨(iS q os).env,zh⟩ ms/\Z.h=Y.h/\Z.Φ=Y.Φ/\Z.σ=Y.σ.take q.h.length/\∀ (i:Nat),q.h[i]?=some .gone->(iS q os).h[i]?=some .gone:=by
 unfold mS at hm
 split at hm
 ·rename_i l1 l2 h1 h2
  cases hm
  rw[<- hst.sh] at h1 h2
  obtain⟨we,e1⟩:=xJ q.env h1 l2
  obtain⟨zs,e2,k1,k2,k3⟩:=zmI h2 []
  rw[List.append_nil] at e2
  have hiS:iS q (l1++l2)=⟨we,zs⟩:=by unfold iS;rw[e1,e2]
  rw[hiS] at hz hzl |-
  have hzl:zh.length=zs.length:=hzl
  have hz:∀ (i:Nat),zh[i]?=if K i=true then X0.sh[i]? else zs[i]?:=hz
  have hσn:(Y.σ.take q.h.length).length=q.h.length:=by rw[List.length_take,hS.hr.len];omega
  have hσg:∀ (i:Nat),i<q.h.length->(Y.σ.take q.h.length)[i]?=Y.σ[i]?:=fun i hi=>by rw[List.getElem?_take,if_pos hi]
  have hσs:∀ (i:Nat) o,(Y.σ.take q.h.length)[i]?=some o->Y.σ[i]?=some o/\i<q.h.length:=fun i o h=>by
   rw[List.getElem?_take] at h;split at h
   ·rename_i hi;exact⟨h,hi⟩
   ·cases h
  have hzs:∀ (i:Nat),i<q.h.length->∃ b',zs[i]?=some b':=fun i hi=>⟨zs[i]'(by omega),List.getElem?_eq_getElem _⟩
  have hM:Mt q.h Y ⟨Y.h,Y.Φ,Y.σ.take q.h.length,zh⟩:=by
   refine⟨rfl,rfl,fun loc m ⟨v,h⟩ hl=>⟨v,(hσg loc hl).trans h⟩,fun loc u n md fx u' l k md' hp hb=>?_⟩
   have hl:=(List.getElem?_eq_some_iff.1 hp).1
   refine⟨?_,hσg loc hl⟩
   show zh[loc]?=_
   rw[hz,if_neg (fun hk=>by have:=(hK loc hk).2.1;rw[hb] at this;cases this)]
   obtain⟨b',hb'⟩:=hzs loc hl
   obtain⟨pb,b,h3,h4,h5⟩:=k3 loc b' hb'
   rw[hp] at h3;cases h3
   rw[hb] at h4;cases h4
   rw[hb']
   rcases h5 with⟨h,_⟩|⟨_,_,_,_,_,_,_,_,_,h⟩|⟨u3,l3,k4,n3,md3,h6,h7,fx3,h8,hfx3,_⟩|⟨_,_,_,_,_,_,_,_,_,h⟩|⟨_,_,_,_,_,_,h⟩|⟨_,_,_,_,_,_,_,h⟩
   ·cases h
   ·cases h
   ·cases h6;cases h8;rw[h7]
   ·cases h
   ·cases h
   ·cases h
  obtain⟨we',e3,hwe⟩:=qK hM q.env h1 hst.env l2
  rw[e1] at e3
  cases e3
  have hle:X0.le ⟨Y.h,Y.Φ,Y.σ.take q.h.length,zh⟩:=by
   refine⟨hS.le.h,hS.le.Φ,by show _<=(Y.σ.take q.h.length).length;rw[hσn,hr0.len];exact hlen,fun loc m v h=>?_,fun loc u l k md hl hs=>?_,hS.le.shl⟩
   ·obtain⟨v',h'⟩:=hS.le.at_ loc m v h
    have:=(List.getElem?_eq_some_iff.1 h).1
    exact⟨v',(hσg loc (by rw[hr0.len] at this;omega)).trans h'⟩
   ·have hs:zh[loc]?=some (.seq u l k md):=hs
    rw[hz] at hs
    split at hs
    ·rename_i hk
     exact⟨l,k,md,hs,Nat.le_refl _,fun _=>⟨rfl,(hσg loc (by omega)).trans (hK loc hk).2.2.1⟩⟩
    ·obtain⟨pb,b,h3,h4,h5⟩:=k3 loc _ hs
     rcases h5 with⟨_,h⟩|⟨_,_,_,_,_,_,_,h,_⟩|⟨u3,l3,k4,n3,md3,h6,h7,fx3,h8,hfx3,_⟩|⟨_,_,_,_,_,_,h,_⟩|⟨_,_,_,_,_,h,_⟩|⟨_,_,_,_,_,h,_⟩
     ·cases h
     ·cases h
     ·cases h7
      subst h6;subst h8
      obtain⟨u',l0,k0,md0,h9,h10⟩:=hver loc _ _ _ _ h3 hl
      obtain⟨l',k',md',h11,h12,h13⟩:=hS.le.seq loc _ _ _ _ hl h4
      rw[h9] at h11;cases h11
      rcases h10 with h10|⟨h10,h14⟩
      ·exact⟨_,_,_,h9,Nat.le_of_lt h10,fun e=>absurd e (by omega)⟩
      ·have hk:=hfx3 h10
       subst hk;subst h14
       obtain⟨q1,q2⟩:=h13 rfl
       exact⟨_,_,_,h9,Nat.le_refl _,fun _=>⟨q1,(hσg loc (by omega)).trans q2⟩⟩
     ·cases h
     ·cases h
     ·cases h
  refine⟨⟨Y.h,Y.Φ,Y.σ.take q.h.length,zh⟩,⟨hle,⟨?_,fun i j m v v' h3 h4=>?_,fun i m v h3=>?_,hS.hr.Φlt,fun i b o h3 h4=>?_,fun i m v b h3 h4 h5=>?_⟩,⟨hS.fm.len,hS.fm.h,fun i b hb hmd=>?_,fun i m v h3 hm=>?_,fun i h3=>?_,hS.fm.phi⟩⟩,⟨hwe,rfl,hst.h,hst.dk.zrq rfl rfl (fun i o e=>(hσs i o e).1) fun i m v b h3 h4 hkm hk=>?_⟩,rfl,rfl,rfl,fun i hi=>?_⟩
  ·show(Y.σ.take q.h.length).length=zh.length;rw[hσn,hzl,k1]
  ·exact hS.hr.inj _ _ _ _ _ (hσs _ _ h3).1 (hσs _ _ h4).1
  ·exact hS.hr.lt _ _ _ (hσs _ _ h3).1
  ·have h3:zh[i]?=some b:=h3
   obtain⟨h4,h5⟩:=hσs _ _ h4
   rw[hz] at h3
   split at h3
   ·rename_i hk
    obtain⟨q1,q2,q3,q4⟩:=hK i hk
    rw[q3] at h4
    exact(hr0.blk i b o h3 h4).le hle fun m v e=>(q4 m v (e ▸ h4)).1
   ·obtain⟨pb,b0,h6,h7,h8⟩:=k3 i _ h3
    have:=zft hM h2 [] i b0 b o (by rw[List.append_nil,e2];exact h3) h7 (hS.hr.blk i b0 o h7 h4)
    exact this
  ·have h3:zh[i]?=some b:=h3
   obtain⟨h4,h6⟩:=hσs _ _ h4
   rw[hz] at h3
   split at h3
   ·rename_i hk
    obtain⟨q1,q2,q3,q4⟩:=hK i hk
    rw[q3] at h4
    exact hr0.own i m v b h3 h4 ((q4 m v h4).2 h5)
   ·obtain⟨pb,b0,h6,h7,h8⟩:=k3 i _ h3
    have ho:=hS.hr.own i m v b0 h7 h4 h5
    rcases h8 with⟨_,h⟩|⟨_,_,_,_,_,_,rfl,rfl,_⟩|⟨_,_,_,_,_,rfl,rfl,_⟩|⟨_,_,_,_,_,rfl,rfl,_⟩|⟨_,_,_,_,⟨_,rfl⟩|rfl,rfl,_⟩|⟨_,_,_,_,rfl,rfl,_⟩
    ·exact .inr h
    ·exact ho.imp id fun h=>by cases h
    ·exact ho.imp id fun h=>by cases h
    ·exact ho.imp id fun h=>by cases h
    ·exact ho.imp id fun h=>by cases h
    ·exact ho.imp id fun h=>by cases h
    ·exact ho.imp id fun h=>by cases h
  ·have hi:=(List.getElem?_eq_some_iff.1 hb).1
   show ∃ b',zh[i]?=some b'/\_
   rw[hz]
   split
   ·exact⟨b,hb,hmd⟩
   ·obtain⟨b',hb'⟩:=hzs i (by omega)
    obtain⟨pb,b0,h6,h7,h8⟩:=k3 i _ hb'
    obtain⟨b2,h9,h10⟩:=hS.fm.md i b hb hmd
    rw[h7] at h9;cases h9
    refine⟨b',hb',?_⟩
    rcases h8 with⟨_,rfl⟩|⟨_,_,_,_,_,_,rfl,rfl,_⟩|⟨_,_,_,_,_,rfl,rfl,_⟩|⟨_,_,_,_,_,rfl,rfl,_⟩|⟨_,_,_,_,⟨_,rfl⟩|rfl,rfl,_⟩|⟨_,_,_,_,rfl,rfl,_⟩
    ·simp [SB.md]
    ·exact h10
    ·exact h10
    ·exact h10
    ·exact h10
    ·exact h10
    ·exact h10
  ·exact hS.fm.new i m v (hσs _ _ h3).1 hm
  ·have hi:=(List.getElem?_eq_some_iff.1 h3).1
   obtain⟨h4,h5⟩:=hS.fm.gone i h3
   refine⟨?_,(hσg i (by omega)).trans h5⟩
   show zh[i]?=_
   rw[hz]
   split
   ·exact h3
   ·obtain⟨b',hb'⟩:=hzs i (by omega)
    obtain⟨pb,b0,h6,h7,h8⟩:=k3 i _ hb'
    rw[h4] at h7;cases h7
    rcases h8 with⟨_,rfl⟩|⟨_,_,_,_,_,_,h,_⟩|⟨_,_,_,_,_,h,_⟩|⟨_,_,_,_,_,h,_⟩|⟨_,_,_,_,⟨_,h⟩|h,_⟩|⟨_,_,_,_,h,_⟩
    ·exact hb'
    ·cases h
    ·cases h
    ·cases h
    ·cases h
    ·cases h
    ·cases h
  ·obtain⟨h4,h5⟩:=hσs _ _ h4
   have h3:zh[i]?=some b:=h3
   rw[hz] at h3
   split at h3
   ·rename_i hk2
    obtain⟨q1,q2,q3,q4⟩:=hK i hk2
    exact(hlo m hkm).gone i v b h3 (by rw[<- q3];exact h4)
   ·obtain⟨pb,b0,h6,h7,h8⟩:=k3 i _ h3
    have hg0:=hk.gone i v b0 h7 h4
    subst hg0
    rcases h8 with⟨_,h⟩|⟨_,_,_,_,_,_,h,_⟩|⟨_,_,_,_,_,h,_⟩|⟨_,_,_,_,_,h,_⟩|⟨_,_,_,_,⟨_,h⟩|h,_⟩|⟨_,_,_,_,h,_⟩
    ·exact h
    ·cases h
    ·cases h
    ·cases h
    ·cases h
    ·cases h
    ·cases h
  ·have hl:=(List.getElem?_eq_some_iff.1 hi).1
   obtain⟨b',hb'⟩:=hzs i hl
   obtain⟨pb,b0,h6,h7,h8⟩:=k3 i _ hb'
   rw[hi] at h6;cases h6
   rcases h8 with⟨_,rfl⟩|⟨_,_,_,_,_,_,_,_,_,h⟩|⟨_,_,_,_,_,_,_,_,h,_⟩|⟨_,_,_,_,_,_,_,_,_,h⟩|⟨_,_,_,_,_,_,h⟩|⟨_,_,_,_,_,_,_,h⟩
   ·exact hb'
   ·cases h
   ·cases h
   ·cases h
   ·cases h
   ·cases h
 ·cases hm
end Go.Sx
namespace Go.Sx
open Go Go.Gx Go.Mx
variable [qk]
def prN(t:Nat):Nat:=t/1099511627776*65536
def zhQ:List (Nat×U)->SS->SS
 | [],st=>st
 |(t,u)::l,st=>match t % 1099511627776/65536 with
  |0=>match st.env[t % 65536]? with
   |some (.a .qj)=>zhQ l ⟨st.env.set (t % 65536) (.gs st.h.length (prN t)),st.h++[.seq u [] (prN t) 0]⟩
   |_=>zhQ l st
  |loc+1=>match st.h[loc]? with
   |some (.cells cs 0 mk)=>match cs[t % 65536]? with
    |some (.a .qj)=>zhQ l ⟨st.env,(st.h++[SB.seq u [] (prN t) 0]).set loc (.cells (cs.set (t % 65536) (.gs st.h.length (prN t))) 0 mk)⟩
    |_=>zhQ l st
   |_=>zhQ l st
def zql:SV->SV->Bool
 |.ifc t (.agg []),.ifc t' (.agg [])=>Nat.beq t t'
 |_,_=>false
theorem znT{X Z:Gst}{v w:SV}{x:AV}(h:zql v w=true)(hv:RV X w x):RV Z v x:=by
 unfold zql at h
 split at h
 ·have:=zd h
  subst this
  obtain⟨y,rfl,l,rfl,hl⟩:=hv
  cases(show l=[] from hl)
  exact⟨_,rfl,[],rfl,rfl⟩
 ·cases h
def zpf:SX->SX->Bool
 |.ret,.ret=>true
 |.exit i,.exit j=>Nat.beq i j
 |.panic v,.panic w=>zql v w
 |_,_=>false
def zg1(e:SX)(st:SS){R:Type}(out:Nat->List Lf->Option R):List (SX×PS)->Nat->Option R
 | [],_=>none
 |(x,q)::l,k=>match zpf x e with
  |true=>match mS q st with
   |some os=>out k os
   |none=>zg1 e st out l (k+1)
  |false=>zg1 e st out l (k+1)
def round(P:Program)(gl:GL)(ct:CT)(n:Nat)(pl:Pl)(p:PS)(outs:List (SX×PS))(c:Code){R:Type}(ls:List Lf)(rec_:List Lf->Option R)(out:Nat->List Lf->Option R):Option R:=
 w9 P gl ct n pl c (iS p ls) fun e st'=>match e with
  |.normal=>match mS p st' with
   |some ls'=>rec_ ls'
   |none=>none
  |e=>zg1 e st' out outs 0
abbrev LS:=(R:Type)->List Lf->(Nat->List Lf->Option R)->Option R
def zli:List PB->SH->Bool
 |.seq _ n _ fx::p,b::h=>(match b with
  |.seq _ _ k _=>Nat.blt k n||(fx&&Nat.beq k n)
  |_=>false)&&zli p h
 |_::p,_::h=>zli p h
 |_,_=>true
def back:SH->List PB->SH->SH
 |b0::h0,.gone::p,b::h=>(match b with
  |.gone=>b0
  |b=>b)::back h0 p h
 |_::h0,_::p,b::h=>b::back h0 p h
 |_,_,h=>h
def zfQ(n:Nat)(h:SH):List (SX×PS)->Bool
 | []=>true
 |(_,q)::l=>Nat.ble n q.h.length&&zli q.h h&&zfQ n h l
def jH(pre:List (Nat×U))(p:PS)(outs:List (SX×PS))(F:LS):LF:=fun R st K=>
 match mS p (zhQ pre st),Nat.beq p.h.length (zhQ pre st).h.length&&zli p.h (zhQ pre st).h&&zfQ (zhQ pre st).h.length (zhQ pre st).h outs with
 |some ls,true=>F R ls fun k os=>match outs[k]? with
  |some (x,q)=>K x ⟨(iS q os).env,back (zhQ pre st).h p.h (iS q os).h⟩
  |none=>none
 |_,_=>none
theorem za6:∀ {p:List PB} {h:SH},zli p h=true->∀ (loc:Nat) (u:U) (n md:Nat) (fx:Bool),p[loc]?=some (.seq u n md fx)->loc<h.length->∃ u' l k md',h[loc]?=some (.seq u' l k md')/\(k<n\/(fx=true/\k=n))
 | [],h,hv,loc,u,n,md,fx,hp,hl=>by simp at hp
 |q::p,[],hv,loc,u,n,md,fx,hp,hl=>by simp at hl
 |q::p,b::h,hv,loc,u,n,md,fx,hp,hl=>by
  cases loc with
  |zero=>
   simp at hp;subst hp
   simp only[zli,Bool.and_eq_true] at hv
   cases b with
   |seq u' l k md'=>
    simp only[Bool.or_eq_true,Bool.and_eq_true] at hv
    exact⟨u',l,k,md',rfl,hv.1.imp qo fun h=>⟨h.1,zd h.2⟩⟩
   |_=>simp at hv
  |succ loc=>
   have hv':zli p h=true:=by
    cases q<;>simp only[zli,Bool.and_eq_true] at hv<;>first|exact hv|exact hv.2
   simpa using za6 hv' loc u n md fx (by simpa using hp) (by simpa using hl)
theorem zcW{n:Nat}{h:SH}:∀ {outs:List (SX×PS)},zfQ n h outs=true->∀ (k:Nat) (x:SX) (q:PS),outs[k]?=some (x,q)->n<=q.h.length/\zli q.h h=true
 | [],_,k,x,q,hk=>by simp at hk
 |(x0,q0)::l,ho,k,x,q,hk=>by
  simp only[zfQ,Bool.and_eq_true] at ho
  cases k with
  |zero=>simp at hk;obtain⟨rfl,rfl⟩:=hk;exact⟨Nat.le_of_ble_eq_true ho.1.1,ho.1.2⟩
  |succ k=>exact zcW ho.2 k x q (by simpa using hk)
def kept(h0:SH)(p:List PB)(h:SH)(i:Nat):Bool:=match h0[i]?,p[i]?,h[i]? with
 |some _,some .gone,some .gone=>true
 |_,_,_=>false
theorem zhB:∀ {h0:SH} {p:List PB} {h:SH} (i:Nat),(back h0 p h)[i]?=if kept h0 p h i=true then h0[i]? else h[i]?
 | [],p,h,i=>by simp [back,kept]
 |b0::h0,[],h,i=>by simp [back,kept]
 |b0::h0,q::p,[],i=>by cases q<;>simp [back,kept]
 |b0::h0,q::p,b::h,i=>by
  cases i with
  |zero=>cases q<;>cases b<;>simp [back,kept]
  |succ i=>
   have:=zhB (h0:=h0) (p:=p) (h:=h) i
   cases q<;>simp only[back,List.getElem?_cons_succ,kept]<;>exact this
theorem zcw:∀ {h0:SH} {p:List PB} {h:SH},(back h0 p h).length=h.length
 | [],p,h=>by simp [back]
 |b0::h0,[],h=>by simp [back]
 |b0::h0,q::p,[]=>by cases q<;>simp [back]
 |b0::h0,q::p,b::h=>by
  have:=zcw (h0:=h0) (p:=p) (h:=h)
  cases q<;>simp only[back,List.length_cons,this]
section
variable {P:Program} {gl:GL} {ct:CT} {hk:z7}
theorem znM{X:Gst}(hr:RH X)(u:U)(n:Nat):RV ⟨X.h,X.Φ,X.σ++[none],X.sh++[.seq u [] n 0]⟩ (.gs X.sh.length n) .qj:=by
 refine⟨rfl,none,?_,fun u' l' k' md' hb'=>?_⟩
 ·show(X.σ++[_])[X.sh.length]?=_
  rw[<- hr.len,List.getElem?_append_right (Nat.le_refl _),Nat.sub_self];rfl
 ·have hb':(X.sh++[SB.seq u [] n 0])[X.sh.length]?=some (.seq u' l' k' md'):=hb'
  rw[List.getElem?_append_right (Nat.le_refl _),Nat.sub_self] at hb'
  cases hb'
  exact⟨Nat.le_refl _,fun _=>⟨rfl,rfl⟩⟩
theorem jX{k:Nat×Option Nat}:∀ {pre:List (Nat×U)} {X:Gst} {st:SS} {ms:St},RH X->StR k X st ms->∃ Y,Stp X Y/\StR k Y (zhQ pre st) ms
 | [],X,st,ms,hr,hs=>⟨X,.refl hr,hs⟩
 |(t,u)::l,X,st,ms,hr,hs=>by
  have S1:=Stp.zo0 hr (b:=.seq u [] (prN t) 0) (by simp [SB.md]) (fun _=>rfl)
  have hgs:=znM hr u (prN t)
  rw[hs.sh] at hgs
  simp only[zhQ]
  split
  ·split
   ·rename_i ht
    obtain⟨x,h1,h2⟩:=hs.env.get ht
    cases(show x=_ from h2)
    rw[hs.sh] at S1
    have henv:=(hs.env.le S1.le).set (t % 65536) hgs
    rw[z8 h1] at henv
    obtain⟨Y,S2,hs2⟩:=jX (pre:=l) (st:=⟨st.env.set (t % 65536) (.gs st.h.length (prN t)),st.h++[.seq u [] (prN t) 0]⟩) S1.hr ⟨henv,rfl,hs.h,hs.dk.step hr S1⟩
    exact⟨Y,S1.trans S2,hs2⟩
   ·exact jX hr hs
  ·rename_i loc ht
   split
   ·rename_i cs mk hb
    split
    ·rename_i hc
     rw[hs.sh] at S1
     have hloc:=(List.getElem?_eq_some_iff.1 hb).1
     have hb1:(st.h++[SB.seq u [] (prN t) 0])[loc]?=some (.cells cs 0 mk):=by rw[List.getElem?_append_left hloc];exact hb
     have hso:loc<X.σ.length:=by rw[hr.len,hs.sh];exact hloc
     have ho1:(X.σ++[none])[loc]?=some X.σ[loc]:=by rw[List.getElem?_append_left hso];exact List.getElem?_eq_getElem hso
     obtain⟨m,l',tt,e1,e2,e3⟩:=S1.hr.blk _ _ _ hb1 ho1
     have S2:Stp ⟨X.h,X.Φ,X.σ++[none],st.h++[.seq u [] (prN t) 0]⟩ ⟨X.h,X.Φ,X.σ++[none],(st.h++[SB.seq u [] (prN t) 0]).set loc (.cells (cs.set (t % 65536) (.gs st.h.length (prN t))) 0 mk)⟩:=by
      refine Stp.turn S1.hr (o':=X.σ[loc]) (b':=.cells (cs.set (t % 65536) (.gs st.h.length (prN t))) 0 mk) hb1 ho1 (by simp) (fun _ _ _=>rfl) (fun _ _ _=>.inl rfl) (Nat.le_refl _) (fun m=>⟨.inl,fun h=>h.elim id fun h=>by cases h.1⟩) (z8 ho1).symm rfl (fun m v h=>?_) (fun m v h=>⟨v,h⟩) (fun u l k md h=>by cases h) (fun h=>absurd rfl h) (fun h=>by rcases h with h|h<;>cases h) (fun hle=>?_)
      ·exact⟨S1.hr.lt _ _ _ (h ▸ ho1),.inl ⟨v,h⟩⟩
      ·have hset:=(e3.le hle).set (t % 65536) (hgs.le hle)
       obtain⟨x,q1,q2⟩:=e3.get hc
       cases(show x=_ from q2)
       rw[z8 q1] at hset
       exact⟨m,l',tt,e1,e2,hset⟩
     obtain⟨Y,S3,hs3⟩:=jX (pre:=l) (st:=⟨st.env,(st.h++[SB.seq u [] (prN t) 0]).set loc (.cells (cs.set (t % 65536) (.gs st.h.length (prN t))) 0 mk)⟩) S2.hr ⟨hs.env.le (S1.trans S2).le,rfl,hs.h,hs.dk.step hr (S1.trans S2)⟩
     exact⟨Y,S1.trans (S2.trans S3),hs3⟩
    ·exact jX hr hs
   ·exact jX hr hs
structure Inv(X0:Gst)(p:PS)(Y:Gst):Prop where
 stp:Stp X0 Y
 kept:∀ (i:Nat),p.h[i]?=some .gone->i<X0.sh.length->Y.sh[i]?=some .gone/\Y.σ[i]?=X0.σ[i]? /\ ∀ m v,X0.σ[i]?=some (some (m,v))->Y.h[m]?=X0.h[m]? /\ (Y.Φ m->X0.Φ m)
theorem Inv.step{X0 Y Z:Gst}{p:PS}(h:Inv X0 p Y)(hr0:RH X0)(hS:Stp Y Z):Inv X0 p Z:=by
 refine⟨h.stp.trans hS,fun i hi hl=>?_⟩
 obtain⟨h1,h2,h3⟩:=h.kept i hi hl
 obtain⟨h4,h5⟩:=hS.fm.gone i h1
 refine⟨h4,h5.trans h2,fun m v hm=>?_⟩
 obtain⟨h6,h7⟩:=h3 m v hm
 have hmY:m<Y.h.length:=h.stp.hr.lt i m v (h2.trans hm)
 refine⟨(hS.fm.h m hmY fun i' v' b' hb' hs'=>?_).trans h6,fun hΦ=>?_⟩
 ·have:=h.stp.hr.inj _ _ _ _ _ hs' (h2.trans hm)
  subst this
  rw[h1] at hb';cases hb';simp [SB.md]
 ·rcases hS.fm.phi m hmY hΦ with h8|⟨i',v',b',h8,h9,h10⟩
  ·exact h7 h8
  ·have:=h.stp.hr.inj _ _ _ _ _ h9 (h2.trans hm)
   subst this
   rw[h1] at h8;cases h8;exact absurd rfl h10
theorem zbp{e:SX}{st:SS}{R:Type}{out:Nat->List Lf->Option R}{r:R}:∀ {outs:List (SX×PS)} {k:Nat},zg1 e st out outs k=some r->∃ j x q os,outs[j]?=some (x,q)/\zpf x e=true/\mS q st=some os/\out (k+j) os=some r
 | [],k,h=>by simp [zg1] at h
 |(x,q)::l,k,h=>by
  simp only[zg1] at h
  split at h
  ·rename_i hx
   split at h
   ·rename_i os hos;exact⟨0,x,q,os,rfl,hx,hos,h⟩
   ·obtain⟨j,x',q',os,h1,h2,h3,h4⟩:=zbp h
    exact⟨j+1,x',q',os,h1,h2,h3,by rwa [Nat.add_right_comm] at h4⟩
  ·obtain⟨j,x',q',os,h1,h2,h3,h4⟩:=zbp h
   exact⟨j+1,x',q',os,h1,h2,h3,by rwa [Nat.add_right_comm] at h4⟩
theorem iter(hct:zi1 P gl ct hk){n:Nat}{pl:Pl}{c:Code}(hpl:ja P gl hk pl c){p:PS}{outs:List (SX×PS)}{X0:Gst}(hr0:RH X0)(hg0:RGl P gl X0)(hlen:p.h.length=X0.sh.length)(hver:zli p.h X0.sh=true)(hout:zfQ X0.sh.length X0.sh outs=true)
  {O:Type} {G:Nat->List Lf->Option O} {od:Nat->List Lf->Option O} (h0:∀ ls,G 0 ls=none) (hs:∀ m ls o,G (m+1) ls=some o->round P gl ct n pl p outs c ls (G m) od=some o) {k0:Nat×Option Nat} (hlo:∀ m,k0.2=some m->Kp X0 m):
  ∀ (m:Nat) (ls:List Lf) (o:O),G m ls=some o->∀ (Y:Gst) (ms:St),Inv X0 p Y->StR k0 Y (iS p ls) ms ->
  ∃ k os x q Z me ms',od k os=some o/\outs[k]?=some (x,q)/\Stp X0 Z/\StR k0 Z ⟨(iS q os).env,back X0.sh p.h (iS q os).h⟩ ms'/\ExR Z x me/\Ev fun m=>ql P hk m (.loop c) ms=some (me,ms')
 |0,ls,o,h=>by rw[h0] at h;cases h
 |m+1,ls,o,h=>by
  intro Y ms hI hst
  have h:=hs m ls o h
  obtain⟨e,st',Y',me,ms',h1,S1,hs1,he1,ev1⟩:=(zc2 hct n).1 pl c hpl k0 _ _ _ _ Y ms h hst hI.stp.hr (hg0.le hI.stp.le)
  have hI':=hI.step hr0 S1
  have key:zg1 e st' od outs 0=some o->(∀ m,ql P hk m c ms=some (me,ms')->ql P hk (m+1) (.loop c) ms=some (me,ms')) ->
    ∃ k os x q Z me ms',od k os=some o/\outs[k]?=some (x,q)/\Stp X0 Z/\StR k0 Z ⟨(iS q os).env,back X0.sh p.h (iS q os).h⟩ ms'/\ExR Z x me/\Ev fun m=>ql P hk m (.loop c) ms=some (me,ms'):=by
   intro h1 hrun
   obtain⟨j,x,q,os,h2,h3,h4,h5⟩:=zbp h1
   obtain⟨h6,h7⟩:=zcW hout j x q h2
   obtain⟨Z,S2,hs2,hh,hΦ,hσ,hg⟩:=weaken hr0 hI'.stp hs1 h4 h6 (za6 h7) (kept X0.sh p.h (iS q os).h) (fun i hi=>by
    unfold kept at hi
    split at hi
    ·rename_i a1 a2 a3
     have hl:=(List.getElem?_eq_some_iff.1 a1).1
     obtain⟨q1,q2,q3⟩:=hI'.kept i a2 hl
     exact⟨hl,q1,q2,q3⟩
    ·cases hi) hlo (zh:=back X0.sh p.h (iS q os).h) zcw zhB
   refine⟨0+j,os,x,q,Z,me,ms',h5,by simpa using h2,S2,hs2,?_,Ev.succ (ev1.mono hrun)⟩
   cases x<;>cases e<;>first|cases h3|skip
   ·cases me<;>first|trivial|cases he1
   ·have:=zd h3
    subst this
    cases me<;>first|exact he1|cases he1
   ·cases me<;>first|exact znT h3 he1|cases he1
  cases e with
  |normal=>
   cases me<;>first|cases he1|skip
   simp only at h1
   split at h1
   ·rename_i ls' hls
    obtain⟨Z,S2,hs2,hh,hΦ,hσ,hg⟩:=weaken hr0 hI'.stp hs1 hls (by omega) (za6 hver) (fun _=>false) (fun _ h=>by cases h) hlo (zh:=(iS p ls').h) rfl (fun i=>by simp)
    have hI2:Inv X0 p Z:=by
     refine⟨S2,fun i hi hl=>?_⟩
     obtain⟨q1,q2,q3⟩:=hI'.kept i hi hl
     refine⟨by rw[hs2.sh];exact hg i hi,?_,fun m v hm=>?_⟩
     ·rw[hσ,List.getElem?_take,if_pos (by omega)];exact q2
     ·rw[hh,hΦ];exact q3 m v hm
    obtain⟨k,os,x,q,Z',me2,ms2,h2,h2',S3,hs3,he3,ev2⟩:=iter hct hpl hr0 hg0 hlen hver hout h0 hs hlo m ls' o h1 Z ms' hI2 hs2
    exact⟨k,os,x,q,Z',me2,ms2,h2,h2',S3,hs3,he3,Ev.succ ((ev1.and ev2).mono fun n ⟨p,q⟩=>by simp only[ql,zU,p,q])⟩
   ·cases h1
  |ret=>
   cases me<;>first|cases he1|skip
   exact key h1 fun m p=>by simp only[ql,zU,p]
  |exit id=>
   cases me<;>first|cases he1|skip
   exact key h1 fun m p=>by simp only[ql,zU,p]
  |panic v=>
   cases me<;>first|cases he1|skip
   exact key h1 fun m p=>by simp only[ql,zU,p]
abbrev KC(O:Type):=(R:Type)->O->(Nat->List Lf->Option R)->Option R
theorem zik(hct:zi1 P gl ct hk){n:Nat}{pl:Pl}{c:Code}(hpl:ja P gl hk pl c){pre:List (Nat×U)}{p:PS}{outs:List (SX×PS)}
  {O:Type} {G:Nat->List Lf->Option O} {od:Nat->List Lf->Option O} {kc:KC O} (h0:∀ ls,G 0 ls=none) (hs:∀ m ls o,G (m+1) ls=some o->round P gl ct n pl p outs c ls (G m) od=some o)
  (hk':∀ k os o,od k os=some o->∀ R κ,kc R o κ=κ k os) (N:Nat):zgj P gl hk (.loop c) (jH pre p outs fun R ls κ=>(G N ls).bind fun o=>kc R o κ):=by
 intro k0 R st K r X ms h hst hr hg
 unfold jH at h
 obtain⟨X0,S0,hs0⟩:=jX (pre:=pre) hr hst
 generalize zhQ pre st=st0 at h hs0
 split at h
 ·rename_i ls hls hok
  simp only[Bool.and_eq_true] at hok
  obtain⟨⟨h1,h2⟩,h3⟩:=hok
  have h1:=zd h1
  rw[<- hs0.sh] at h1 h2 h3
  obtain⟨o,ho,h4⟩:=Option.bind_eq_some_iff.1 h
  obtain⟨Z,S2,hs2,hh,hΦ,hσ,hgn⟩:=weaken S0.hr (Stp.refl S0.hr) hs0 hls (by omega) (za6 h2) (fun _=>false) (fun _ h=>by cases h) (fun m e=>(hs0.dk.lo m e).2) (zh:=(iS p ls).h) rfl (fun i=>by simp)
  obtain⟨k,os,x,q,Z',me2,ms2,h5',h5,S3,hs3,he3,ev2⟩:=iter hct hpl S0.hr (hg.le S0.le) h1 h2 h3 h0 hs (fun m e=>(hs0.dk.lo m e).2) N ls o ho Z ms ⟨S2,fun i hi hl=>⟨by rw[hs2.sh];exact hgn i hi,by rw[hσ,List.getElem?_take,if_pos (by omega)],fun m v hm=>by rw[hh,hΦ];exact⟨rfl,id⟩⟩⟩ hs2
  rw[hk' k os o h5' R] at h4
  simp only[h5] at h4
  rw[hs0.sh] at hs3
  exact⟨x,_,Z',me2,ms2,h4,S0.trans S3,hs3,he3,ev2⟩
 ·cases h
end
end Go.Sx
namespace Go.Sx
open Go Go.Gx Go.Mx
variable [qk]
def kb:List U->U
 | []=>.unit
 |u::l=>.pair u (kb l)
def qn:(us:List U)->El (kb us)->List SV
 | [],_=>[]
 |u::l,x=>zge u x.1::qn l x.2
def qG:(us:List U)->List SV->SH->Option (El (kb us)×SH)
 | [],[],h=>some ((),h)
 |u::us,v::vs,h=>match wq u v,dec u v.cells h with
  |true,some (x,[],h1)=>match qG us vs h1 with
   |some (y,h2)=>some ((x,y),h2)
   |none=>none
  |_,_=>none
 |_,_,_=>none
def unS(rs:List U)(v:SV):Option (List SV):=match rs with
 | [_]=>some [v]
 |_=>match v with
  |.tup vs=>some vs
  |_=>none
def zan(rs:List U):SC->Option (El (kb rs))
 |.ret v h=>match unS rs v with
  |some vs=>match qG rs vs h with
   |some (x,_)=>some x
   |none=>none
  |none=>none
 |.pan _ _=>none
def kl(us rs:List U)(F:El (kb us)->Option (El (kb rs))):CF:=fun R args h κ=>match qG us args h with
 |some (x,h')=>(F x).bind fun y=>κ (.ret (zle (qn rs y)) h')
 |none=>none
theorem zd2{h:zb}{Φ:Nat->Prop}{Z:Gst}(hh:Z.h=h)(hΦ:Z.Φ=Φ){u:U}{x:El u}{cs:List AV}(q:RE h Φ u x cs):(u.agg=true->RV Z (zge u x) (.agg cs))/\(u.agg=false->∀ c,cs=[c]->RV Z (zge u x) c):=by
 subst hh;subst hΦ
 cases u with
 |bool=>exact⟨(fun h=>by cases h),fun _ c e=>by cases(show cs=_ from q);cases e;rfl⟩
 |int k=>exact⟨(fun h=>by cases h),fun _ c e=>by cases(show cs=_ from q);cases e;rfl⟩
 |u8=>exact⟨(fun h=>by cases h),fun _ c e=>by cases(show cs=_ from q);cases e;rfl⟩
 |str=>exact⟨(fun h=>by cases h),fun _ c e=>by cases(show cs=_ from q);cases e;rfl⟩
 |sl u=>exact⟨(fun h=>by cases h),fun _ c e=>by obtain⟨y,e2,q⟩:=zm8.1 q;rw[e] at e2;cases e2;exact q⟩
 |slc u=>exact⟨(fun h=>by cases h),fun _ c e=>by obtain⟨y,e2,q⟩:=zi5.1 q;rw[e] at e2;cases e2;exact q⟩
 |pair u v=>exact⟨fun _=>⟨cs,rfl,jc q⟩,fun h=>by cases h⟩
 |unit=>exact⟨fun _=>⟨cs,rfl,q⟩,fun h=>by cases h⟩
theorem jb:∀ (us:List U) {X:Gst} (hr:RH X) {vs:List SV} {xs:List AV} {x:El (kb us)} {h':SH},RVs X vs xs->qG us vs X.sh=some (x,h') ->
  ∃ Y,Stp X Y/\Y.h=X.h/\Y.sh=h'/\∀ Z:Gst,Z.h=Y.h->(∀ m,Y.Φ m->Z.Φ m)->RVs Z (qn us x) xs
 | [],X,hr,vs,xs,x,h',hv,hd=>by
  cases vs with
  |nil=>simp only[qG] at hd;cases hd;cases(show xs=[] from hv);exact⟨X,.refl hr,rfl,rfl,fun Z _ _=>rfl⟩
  |cons=>simp [qG] at hd
 |u::us,X,hr,vs,xs,x,h',hv,hd=>by
  cases vs with
  |nil=>simp [qG] at hd
  |cons v vs=>
   obtain⟨a,t,rfl,q1,q2⟩:=hv
   simp only[qG] at hd
   split at hd
   ·rename_i y h1 hag hd1
    split at hd
    ·rename_i z h2 hd2
     cases hd
     have hc:∃ cs,RVs X v.cells cs/\((u.agg=true/\a=.agg cs)\/(u.agg=false/\cs=[a])):=by
      unfold wq at hag
      split at hag
      ·obtain⟨l',rfl,q⟩:=q1;exact⟨l',q,.inl ⟨hag,rfl⟩⟩
      ·rename_i hn
       have e1:v.cells=[v]:=by cases v<;>first|rfl|exact absurd rfl (hn _)
       refine⟨[a],e1 ▸ .one q1,.inr ⟨by simpa using hag,rfl⟩⟩
     obtain⟨cs,hcs,hca⟩:=hc
     obtain⟨Y,c1,c2,S1,hh1,hs1,e1,hRE,hr2⟩:=wk u hr hcs hd1
     cases(show c2=[] from hr2)
     rw[List.append_nil] at e1
     subst e1
     rw[<- hs1] at hd2
     obtain⟨W,S2,hh2,hs2,hW⟩:=jb us S1.hr (q2.le S1.le) hd2
     refine⟨W,S1.trans S2,hh2.trans hh1,hs2,fun Z hZ hΦ=>?_⟩
     have hRE':RE Z.h Z.Φ u y cs:=hRE.le (fun m hm=>by rw[hZ,hh2]) (fun m hm=>hΦ m (S2.le.Φ m hm))
     obtain⟨k1,k2⟩:=zd2 (Z:=Z) rfl rfl hRE'
     refine⟨a,t,rfl,?_,hW Z hZ hΦ⟩
     rcases hca with⟨hag,rfl⟩|⟨hag,rfl⟩
     ·exact k1 hag
     ·exact k2 hag a rfl
    ·cases hd
   ·cases hd
section
variable {P:Program} {gl:GL} {ct:CT} {hk:z7}
theorem zh5{f:FuncId}{us rs:List U}{F:El (kb us)->Option (El (kb rs))}{run:CF}(hrun:zdg P gl hk f run)
  (hF:∀ (Y:Gst) (x:El (kb us)) (margs:List AV),RVs Y (qn us x) margs->∃ vs,RVs Y vs margs/\run _ vs [] (zan rs)=F x):zdg P gl hk f (kl us rs F):=by
 intro R args κ r X margs h hargs hr hg
 unfold kl at h
 split at h
 ·rename_i x h' hd
  obtain⟨Y,S1,hh1,hs1,hA⟩:=jb us hr hargs hd
  cases hFx:F x with
  |none=>rw[hFx] at h;cases h
  |some y=>
   rw[hFx] at h
   have hY:RH Y.base:=⟨rfl,fun i j m v v' h=>by simp [Gst.base] at h,fun i m v h=>by simp [Gst.base] at h,S1.hr.Φlt,fun i b o h=>by simp [Gst.base] at h,fun i m v b h=>by simp [Gst.base] at h⟩
   have hgY:RGl P gl Y.base:=fun g cs hg'=>(hg.le S1.le) g cs hg'
   obtain⟨vs0,hvs0,hF0⟩:=hF Y.base x margs (hA Y.base rfl fun _ h=>h)
   rw[<- hF0] at hFx
   obtain⟨q,Z,mq,h1,S2,hcr,ev⟩:=hrun _ _ _ _ Y.base margs hFx hvs0 hY hgY
   cases q with
   |pan v sh=>cases h1
   |ret v sh=>
    cases mq with
    |pan=>cases hcr
    |ret xv hv'=>
     obtain⟨e1,e2,hv⟩:=hcr
     simp only[zan] at h1
     split at h1
     ·rename_i vs hvs
      split at h1
      ·rename_i z h2 hd2
       cases h1
       rw[<- e1] at hd2
       have hun:∃ xs,RVs Z vs xs/\∀ W,(RVs W (qn rs y) xs->RV W (zle (qn rs y)) xv):=by
        unfold unS at hvs
        split at hvs
        ·cases hvs
         exact⟨[xv],.one hv,fun W ⟨a,t,e,q,ht⟩=>by cases e;exact q⟩
        ·rename_i hrs
         split at hvs
         ·cases hvs
          obtain⟨l',rfl,q⟩:=hv
          refine⟨l',q,fun W hW=>?_⟩
          have:zle (qn rs y)=.tup (qn rs y):=by
           match rs,y,hrs with
           | [],_,_=>rfl
           | [u],_,hrs=>exact absurd rfl (hrs u)
           |_::_::_,_,_=>rfl
          rw[this];exact⟨l',rfl,hW⟩
         ·cases hvs
       obtain⟨xs,hxs,hone⟩:=hun
       obtain⟨Z2,S3,hh3,hs3,hA3⟩:=jb rs S2.hr hxs hd2
       have S4:=S2.trans S3
       have hsame:∀ m,m<Y.h.length->Z2.h[m]?=Y.h[m]?:=fun m hm=>S4.fm.h m hm fun i v b hb=>by simp [Gst.base] at hb
       have hphi:∀ m,m<Y.h.length->Z2.Φ m->Y.Φ m:=fun m hm hΦ=>(S4.fm.phi m hm hΦ).elim id fun⟨i,v,b,hb,_⟩=>by simp [Gst.base] at hb
       have hle:Y.le ⟨Z2.h,Z2.Φ,Y.σ,Y.sh⟩:=⟨fun m hm=>hsame m (S1.hr.Φlt m hm),S4.le.Φ,Nat.le_refl _,fun _ _ v h=>⟨v,h⟩,fun _ _ l k md _ h=>⟨l,k,md,h,Nat.le_refl _,fun _=>⟨rfl,rfl⟩⟩,S1.hr.len⟩
       have S5:Stp Y ⟨Z2.h,Z2.Φ,Y.σ,Y.sh⟩:=by
        refine⟨hle,⟨S1.hr.len,S1.hr.inj,fun i m v h=>Nat.lt_of_lt_of_le (S1.hr.lt i m v h) S4.fm.len,S4.hr.Φlt,fun i b o hb ho=>(S1.hr.blk i b o hb ho).le hle fun m v e=>hsame m (S1.hr.lt i m v (e ▸ ho)),fun i m v b hb ho hΦ=>S1.hr.own i m v b hb ho (hphi m (S1.hr.lt i m v ho) hΦ)⟩,
         ⟨S4.fm.len,fun m hm _=>hsame m hm,fun i b hb hm=>⟨b,hb,hm⟩,fun i m v h _=>⟨v,h⟩,fun i h=>⟨h,rfl⟩,fun m hm hΦ=>.inl (hphi m hm hΦ)⟩⟩
       refine⟨_,_,.ret xv hv',h,S1.trans S5,⟨hs1,?_,hone _ (hA3 _ rfl fun _ h=>h)⟩,?_⟩
       ·show Z2.h=hv';rw[hh3,e2]
       ·rw[<- hh1];exact ev
      ·cases h1
     ·cases h1
 ·cases h
theorem zdw(hct:zi1 P gl ct hk){n:Nat}{pl:Pl}{f:FuncId}{us rs:List U}{F:El (kb us)->Option (El (kb rs))}(hpl:∀ fn b,P.funcs[f]?=some fn->fn.body=some b->ja P gl hk pl b)
  (hF:∀ (Y:Gst) (x:El (kb us)) (margs:List AV),RVs Y (qn us x) margs->∃ vs,RVs Y vs margs/\jE P gl ct n pl f vs [] (zan rs)=F x):zdg P gl hk f (kl us rs F):=zh5 (run:=fun R args h κ=>jE P gl ct (R:=R) n pl f args h κ) ((zc2 hct n).2.2.1 pl f hpl) hF
theorem zjk(hct:zi1 P gl ct hk){n:Nat}{pl:Pl}{f:FuncId}{us rs:List U}{F:El (kb us)->Option (El (kb rs))}(hpl:∀ fn b,P.funcs[f]?=some fn->fn.body=some b->ja P gl hk pl b)
  (hF:∀ x,jE P gl ct n pl f (qn us x) [] (zan rs)=F x):zdg P gl hk f (kl us rs F):=zdw hct hpl fun Y x margs h=>⟨_,h,hF x⟩
theorem zea(hct:zi1 P gl ct hk){n:Nat}{pl:Pl}{f:FuncId}{u:U}{rs:List U}{F:List (El u)->Option (El (kb rs))}(hpl:∀ fn b,P.funcs[f]?=some fn->fn.body=some b->ja P gl hk pl b)
  (h1:∀ l,jE P gl ct n pl f [.nsl u l] [] (zan rs)=F l) (h2:jE P gl ct n pl f [.a .qj] [] (zan rs)=F []):zdg P gl hk f (kl [.sl u] rs fun x=>F x.1):=zdw hct hpl fun Y x margs ⟨a,t,e,q,ht⟩=>by
 obtain⟨l,⟨⟩⟩:=x
 rcases(show RSl Y.h Y.Φ false u l a from q) with⟨rfl,rfl⟩|h
 ·exact⟨[.a .qj],⟨_,t,e,rfl,ht⟩,h2⟩
 ·exact⟨[.nsl u l],⟨_,t,e,h,ht⟩,h1 l⟩
end
end Go.Sx
namespace Go.Mx
open Go Go.Gx
def AV.za2:AV->Bool
 |.bool _|.int _ _|.str _|.zat|.qj|.zb9|.zeX|.xG|.any|.opq=>true
 |_=>false
def AV.zpg:AV->Bool
 |.tup l=>l.all AV.za2
 |v=>v.za2
theorem V.za2{G G':Gh}{v:AV}{u:Value}(hs:v.za2=true)(h:V G v u):V G' v u:=by
 cases h<;>first|(cases hs;done)|constructor
theorem VL.za2{G G':Gh}:∀ {l:List AV} {us:List Value},l.all AV.za2=true->VL G l us->VL G' l us
 | [],us,_,h=>by cases h;exact .nil
 |x::l,us,hs,h=>by
  cases h with
  |cons h1 h2=>
   simp only[List.all_cons,Bool.and_eq_true] at hs
   exact .cons (V.za2 hs.1 h1) (VL.za2 hs.2 h2)
theorem V.zpg{G G':Gh}{v:AV}{u:Value}(hs:v.zpg=true)(h:V G v u):V G' v u:=by
 cases v with
 |tup l=>cases h with|tup h=>exact .tup (VL.za2 hs h)
 |_=>exact V.za2 hs h
structure Laid(P:Program)(hgl:zb)(Gg:Gh)(B:Nat)(W0:World):Prop where
 hr:HR Gg B hgl W0
 low:∀ loc v r,Gg.at loc v=some r->r.b<B
 g:∀ g,g<P.globals.size->∃ r,Gg.at g 0=some r/\r.b=g/\r.lo=0/\r.sh=0
def HOK(P:Program)(hgl:zb)(Gg:Gh)(hk:z7):Prop:=∀ B W0,Laid P hgl Gg B W0->zcp P B W0 hk
section
variable {P:Program} {hgl:zb} {Gg:Gh} {B:Nat} {W0 w:World}
theorem Laid.at(h:Laid P hgl Gg B W0)(hl:∀ b,b<B->w.heap[b]?=W0.heap[b]?)(hs:B<=w.heap.size){B':Nat}(hB:B<=B')(hs':B'<=w.heap.size):Laid P hgl Gg B' w:=by
 refine⟨⟨h.hr.len,fun loc b vs hb hg=>(h.hr.blk loc b vs hb hg).mono (Gh.le_refl _) fun v r hv=>hl _ (h.low loc v r (Gh.kL hg hv)),fun loc v r hat=>Nat.lt_of_lt_of_le (h.low loc v r hat) hs,fun loc v r b hat hb=>?_,fun l1 l2 v1 v2 r1 r2 h1 _ hB1 _=>?_,hs'⟩,fun loc v r hat=>Nat.lt_of_lt_of_le (h.low loc v r hat) hB,h.g⟩
 ·have h1:=h.hr.own loc v r b hat hb
  have h2:=h.low loc v r hat
  exact⟨fun e=>by have:=h1.1 e;omega,fun e=>by omega⟩
 ·have:=h.low l1 v1 r1 h1;omega
theorem zcB(hmo:P.follows .mixedOrders=true)(hng:zgi P){hk:z7}(hh:HOK P hgl Gg hk)(hL:Laid P hgl Gg B W0){n f:Nat}{args:List AV}{h h':zb}{v:AV}
  (hc:wO P (ql P hk n) f args hgl=some (.ret v h')) (ha:args.all AV.za2=true) (hs:v.zpg=true):za9 P B W0 f args h (.ret v h):=by
 intro G us w hx hr hg
 left
 have hL':Laid P hgl Gg w.heap.size w:=hL.at hg.low hr.base hr.base (Nat.le_refl _)
 have hg':zau P w.heap.size w Gg w:=⟨hL.g,fun _ _=>rfl⟩
 obtain⟨h1,h2⟩:=wu hng (qE hmo hng (hh _ _ hL') n).1 (qE hmo hng (hh _ _ hL') n).2.2 hc (VL.za2 ha hx) hL'.hr hg'
 refine⟨h1.mono fun e w' hcr=>?_,h2⟩
 obtain⟨G',hS,u,hv,rfl⟩:=hcr
 refine⟨G,Step.grow hr hS.fr.size (fun b hb=>hS.fr.low b hb fun loc v r hat hB e=>?_) hS.fr.os hS.fr.tape hS.fr.output,u,V.zpg hs hv,rfl⟩
 have:=hL'.low _ _ _ hat;omega
theorem zel(tab:List (FuncId×XK))(h:∀ f k,(f,k) ∈ tab->XFn P f k):HOK P hgl Gg (zex tab):=fun B W0 _=>znG h B W0
def zt(hk:z7)(f:FuncId)(g:List AV->zb->Option CR):z7:=fun k=>match Nat.beq k f with
 |true=>some g
 |false=>hk k
theorem zac{hk:z7}(hh:HOK P hgl Gg hk){f:FuncId}{g:List AV->zb->Option CR}(hg:∀ B W0,Laid P hgl Gg B W0->∀ args h r,g args h=some r->za9 P B W0 f args h r):HOK P hgl Gg (zt hk f g):=by
 intro B W0 hL f' g' hg' args h r hr
 unfold zt at hg'
 cases hb:Nat.beq f' f with
 |true=>
  rw[hb] at hg'
  cases hg'
  have:=Nat.eq_of_beq_eq_true hb
  subst this
  exact hg B W0 hL args h r hr
 |false=>rw[hb] at hg';exact hh B W0 hL f' g' hg' args h r hr
end
section
variable {P:Program} {G:Gh} {B:Nat} {h:zb} {w:World}
theorem HR.zoZ{blk:Blk}{r:Ver}(hr:HR G B h w)(ho:blk.own=false)(hlt:r.b<B)(hB:ziZ (G++[[r]]) w blk [r]):HR (G++[[r]]) B (h++[blk]) w:=by
 have hone:∀ (v:Nat) (r':Ver),[r][v]?=some r'->r'=r:=by
  intro v r' hv
  cases v with
  |zero=>simp at hv;exact hv.symm
  |succ v=>simp at hv
 refine⟨by rw[Arr.zq,List.length_append,hr.len];rfl,?_,?_,?_,?_,hr.base⟩
 ·intro loc b vs' hl hg
  by_cases hlt:loc<h.length
  ·rw[Arr.zY hlt] at hl
   rw[List.getElem?_append_left (by rw[hr.len];exact hlt)] at hg
   exact(hr.blk loc b vs' hl hg).mono (Gh.kW _ _) fun v r hv=>rfl
  ·have hle:loc=h.length:=by
    have:=Arr.lt hl;rw[Arr.zq] at this;simp at this;omega
   subst hle
   rw[Arr.zm (by omega)] at hl
   rw[List.getElem?_append_right (by rw[hr.len];omega),hr.len] at hg
   simp at hl hg
   subst hl;subst hg;exact hB
 ·intro loc v r' hat
  rcases kh hat with hat|⟨_,hat⟩
  ·exact hr.lt _ _ _ hat
  ·rw[hone _ _ hat];exact Nat.lt_of_lt_of_le hlt hr.base
 ·intro loc v r' b hat hl
  rcases kh hat with hat|⟨hl',hat'⟩
  ·obtain⟨b',_,hb',_⟩:=hr.get hat
   have hlt:=Arr.lt hb'
   rw[Arr.zY hlt] at hl
   exact hr.own _ _ _ _ hat hl
  ·rw[hl',hr.len,Arr.zm (by omega)] at hl
   simp at hl;subst hl
   rw[ho,hone _ _ hat']
   exact Iff.intro (fun e=>by cases e) (fun e=>by omega)
 ·intro l1 l2 v1 v2 r1 r2 ha1 ha2 hB1 he
  rcases kh ha1 with h1|⟨e1,h1⟩<;>rcases kh ha2 with h2|⟨e2,h2⟩
  ·exact hr.apart _ _ _ _ _ _ h1 h2 hB1 he
  ·rw[hone _ _ h2] at he;omega
  ·rw[hone _ _ h1] at hB1;omega
  ·exact e1.trans e2.symm
theorem HR.zbr{xs:List AV}{cs:List Value}{a:Addr}{c:Array Value}{T:TypeId}{fr:Nat×Nat}(hr:HR G B h w)(hlt:a.block<B)(hc:w.heap[a.block]?=some (.cells c T fr))(hx:VL G xs cs)
  (hcs:∀ (j:Nat) (u:Value),cs[j]?=some u->c[j+a.off]?=some u) (hsz:xs.length+a.off<=c.size):
  HR (G++[[⟨a.block,0,xs.length,c.size,a.off⟩]]) B (h++[Blk.lay xs]) w:=by
 refine hr.zoZ rfl hlt (.inr ⟨_,rfl,rfl,rfl,c,T,fr,hc,rfl,hsz,fun p hp=>?_⟩)
 have hp':p<xs.length:=hp
 obtain⟨u,e1,e2⟩:=hx.get (List.getElem?_eq_getElem hp')
 exact⟨_,u,List.getElem?_eq_getElem hp',hcs p u e1,e2.le (Gh.kW _ _)⟩
end
def zdK{α:Type}(f:α->zb->Option (List AV×zb)):List α->zb->Option (List AV×zb)
 | [],h=>some ([],h)
 |d::l,h=>match f d h with
  |some (xs,h1)=>match zdK f l h1 with
   |some (ys,h2)=>some (xs++ys,h2)
   |none=>none
  |none=>none
def flush(P:Program):List Field->Nat->Nat->Bool
 | [],o,n=>Nat.beq o n
 |f::l,o,n=>Nat.beq f.offset o&&flush P l (o+P.cellsOf f.type) n
def zmH{H:Type}(P:Program):Nat->TypeId->DataW H->zb->Option (List AV×zb)
 |0,_,_,_=>none
 |n+1,t,d,h=>match P.underlying t,d with
  |some .bool,.lit (.bool b)=>some ([.bool b],h)
  |some (.int _),.lit (.int k m)=>some ([.int k m],h)
  |some .string,.lit (.string l)=>some ([.str l],h)
  |some (.pointer _),.nil=>some ([.zat],h)
  |some (.pointer e),.ptr d=>match zmH P n e d h with
   |some (x::xs,h')=>some ([.ptr h'.length 0 0 (xs.length+1)],h'++[Blk.lay (x::xs)])
   |_=>none
  |some (.slice _),.nil=>some ([.qj],h)
  |some (.slice e),.slice (d::l) _=>match zdK (zmH P n e) (d::l) h with
   |some (x::xs,h')=>some ([.sl h'.length 0 (l.length+1) (P.cellsOf e) 0 false],h'++[Blk.lay (x::xs)])
   |_=>none
  |some (.slice e),.slice [] _=>if Nat.blt 0 (P.cellsOf e)=true then some ([.sl h.length 0 0 (P.cellsOf e) 0 false],h++[Blk.lay []]) else none
  |some (.struct fs),.agg ds=>if flush P fs.toList 0 (P.cellsOf t)=true/\ds.length=fs.size then zdK (fun p=>zmH P n p.1.type p.2) (fs.toList.zip ds) h else none
  |some (.array m e),.agg ds=>if m*P.cellsOf e=P.cellsOf t/\ds.length=m then zdK (zmH P n e) ds h else none
  |some (.interface _),.nil=>some ([.xG],h)
  |some (.interface _),.iface _ _=>some ([.opq],h)
  |_,_=>none
section
variable {P:Program} {B:Nat} {w:World}
theorem mapM_some{α β:Type}{f:α->Option β}:∀ {l:List α} {r:List β},l.mapM f=some r->r.length=l.length/\∀ (i:Nat) (a:α),l[i]?=some a->∃ b,r[i]?=some b/\f a=some b
 | [],r,h=>by simp at h;subst h;simp
 |x::l,r,h=>by
  simp only[List.mapM_cons,Option.bind_eq_bind,Option.bind_eq_some_iff,Option.pure_def,Option.some.injEq] at h
  obtain⟨b,hb,r',hr',rfl⟩:=h
  obtain⟨h1,h2⟩:=mapM_some hr'
  refine⟨by simp [h1],fun i a ha=>?_⟩
  cases i with
  |zero=>simp at ha;subst ha;exact⟨b,rfl,hb⟩
  |succ i=>simpa using h2 i a (by simpa using ha)
theorem wU{base n:Nat}{a:Addr}{cs:List Value}(h:w.cells? base a n=some cs):cs.length=n/\∀ (j:Nat) (u:Value),cs[j]?=some u->w.cell? (a.add j)=some u:=by
 unfold World.cells? at h
 split at h
 ·obtain⟨h1,h2⟩:=mapM_some h
  rw[List.length_range] at h1
  refine⟨h1,fun j u hu=>?_⟩
  have hj:j<n:=by rw[<- h1];exact(List.getElem?_eq_some_iff.1 hu).1
  obtain⟨b,e1,e2⟩:=h2 j j (by simp [hj])
  rw[hu] at e1;cases e1
  exact e2
 ·cases h
theorem zdv{a:Addr}{u:Value}(h:w.cell? a=some u):∃ c T fr,w.heap[a.block]?=some (.cells c T fr)/\a.spot=none/\c[a.off]?=some u:=by
 unfold World.cell? at h
 split at h
 ·rename_i c T fr hb
  split at h
  ·cases h
  ·rename_i hs
   exact⟨c,T,fr,hb,by cases hsp:a.spot<;>simp_all,h⟩
 ·cases h
theorem js(a:Addr)(j:Nat):(a.add j).block=a.block/\(a.add j).off=a.off+j:=by
 unfold Addr.add
 split
 ·subst_vars;exact⟨rfl,rfl⟩
 ·exact⟨rfl,rfl⟩
theorem wj{base n:Nat}{a:Addr}{cs:List Value}(h:w.cells? base a n=some cs)(hn:0<n):∃ c T fr,w.heap[a.block]?=some (.cells c T fr)/\a.spot=none/\(∀ (j:Nat) (u:Value),cs[j]?=some u->c[j+a.off]?=some u)/\n+a.off<=c.size:=by
 obtain⟨h1,h2⟩:=wU h
 have h0:=h2 0 _ (List.getElem?_eq_getElem (by omega))
 obtain⟨c,T,fr,e1,e2,e3⟩:=zdv h0
 have ha0:a.add 0=a:=by simp [Addr.add]
 rw[ha0] at e1 e2
 have hall:∀ (j:Nat) (u:Value),cs[j]?=some u->c[j+a.off]?=some u:=by
  intro j u hu
  obtain⟨c',T',fr',f1,_,f3⟩:=zdv (h2 j u hu)
  rw[(js a j).1,e1] at f1
  cases f1
  rw[(js a j).2,Nat.add_comm] at f3
  exact f3
 refine⟨c,T,fr,e1,e2,hall,?_⟩
 have hl:=hall (n-1) _ (List.getElem?_eq_getElem (by omega))
 have:=(Array.getElem?_eq_some_iff.1 hl).1
 omega
def Gh.ext(G G':Gh):Prop:=∃ E,G'=G++E
theorem Gh.zT(G:Gh):G.ext G:=⟨[],by simp⟩
theorem Gh.ext.trans{a b c:Gh}(h:a.ext b)(k:b.ext c):a.ext c:=by
 obtain⟨E,rfl⟩:=h
 obtain⟨F,rfl⟩:=k
 exact⟨E++F,by rw[List.append_assoc]⟩
theorem Gh.ext.le{a b:Gh}(h:a.ext b):a.le b:=by
 obtain⟨E,rfl⟩:=h
 intro loc v r hat
 unfold Gh.at at *
 cases hg:a[loc]? with
 |none=>rw[hg] at hat;cases hat
 |some vs=>rw[hg] at hat;rw[List.getElem?_append_left (List.getElem?_eq_some_iff.1 hg).1,hg];exact hat
theorem Gh.ext.get{a b:Gh}(h:a.ext b){loc:Nat}{vs:List Ver}(hg:a[loc]?=some vs):b[loc]?=some vs:=by
 obtain⟨E,rfl⟩:=h
 rw[List.getElem?_append_left (List.getElem?_eq_some_iff.1 hg).1];exact hg
theorem Gh.xr(G:Gh)(vs:List Ver):G.ext (G++[vs]):=⟨[vs],rfl⟩
theorem wE{α:Type}{f:α->zb->Option (List AV×zb)}{Q:α->List Value->Prop}
  (hf:∀ d h xs h' G,HR G B h w->f d h=some (xs,h')->∀ cs,Q d cs->∃ G',HR G' B h' w/\G.ext G'/\VL G' xs cs):
  ∀ {ds:List α} {h h':zb} {xs:List AV} {G:Gh} {css:List (List Value)},HR G B h w->zdK f ds h=some (xs,h')->css.length=ds.length->(∀ (i:Nat) (d:α) (cs:List Value),ds[i]?=some d->css[i]?=some cs->Q d cs) ->
   ∃ G',HR G' B h' w/\G.ext G'/\VL G' xs css.flatten
 | [],h,h',xs,G,css,hr,hl,hlen,_=>by
  cases hl
  have:css=[]:=List.eq_nil_of_length_eq_zero hlen
  subst this
  exact⟨G,hr,Gh.zT _,.nil⟩
 |d::ds,h,h',xs,G,css,hr,hl,hlen,hq=>by
  cases css with
  |nil=>simp at hlen
  |cons cs css=>
   unfold zdK at hl
   split at hl
   ·rename_i ys h1 h2
    split at hl
    ·rename_i zs h3 h4
     cases hl
     obtain⟨G1,r1,l1,v1⟩:=hf d h ys h1 G hr h2 cs (hq 0 d cs rfl rfl)
     obtain⟨G2,r2,l2,v2⟩:=wE hf (css:=css) r1 h4 (by simpa using hlen) (fun i d' cs' e1 e2=>hq (i+1) d' cs' (by simpa using e1) (by simpa using e2))
     exact⟨G2,r2,l1.trans l2,(v1.le l2.le).append v2⟩
    ·cases hl
   ·cases hl
theorem zgx{c:Array Value}{sz:Nat}:∀ {css:List (List Value)} {o:Nat},(∀ (i:Nat) (cs:List Value),css[i]?=some cs->cs.length=sz/\∀ (k:Nat) (u:Value),cs[k]?=some u->c[k+(o+i*sz)]?=some u) ->
  css.flatten.length=css.length*sz/\∀ (j:Nat) (u:Value),css.flatten[j]?=some u->c[j+o]?=some u
 | [],o,_=>by simp
 |cs::css,o,h=>by
  obtain⟨h1,h2⟩:=h 0 cs rfl
  obtain⟨h3,h4⟩:=zgx (css:=css) (o:=o+sz) (c:=c) (sz:=sz) (fun i cs' hi=>by
   obtain⟨q1,q2⟩:=h (i+1) cs' (by simpa using hi)
   refine⟨q1,fun k u hu=>?_⟩
   have:=q2 k u hu
   rwa [show o+(i+1)*sz=o+sz+i*sz from by rw[Nat.add_mul];omega] at this)
  refine⟨by simp only[List.flatten_cons,List.length_append,List.length_cons,h1,h3,Nat.add_mul];omega,fun j u hu=>?_⟩
  rw[List.flatten_cons,List.getElem?_append] at hu
  split at hu
  ·have:=h2 j u hu
   simpa using this
  ·rename_i hge
   have:=h4 _ u hu
   rwa [h1,show j-sz+(o+sz)=j+o from by omega] at this
theorem zbc{cs:List Value}:∀ {l:List Field} {o n:Nat},flush P l o n=true->cs.length=n->o<=n->(l.map fun f=>(cs.drop f.offset).take (P.cellsOf f.type)).flatten=cs.drop o
 | [],o,n,h,hl,ho=>by
  have:=Nat.eq_of_beq_eq_true h
  simp;omega
 |f::l,o,n,h,hl,ho=>by
  simp only[flush,Bool.and_eq_true] at h
  have he:=Nat.eq_of_beq_eq_true h.1
  by_cases hle:o+P.cellsOf f.type<=n
  ·have ih:=zbc (cs:=cs) h.2 hl hle
   simp only[List.map_cons,List.flatten_cons]
   rw[ih,he,<- List.drop_drop]
   exact List.take_append_drop _ _
  ·exfalso
   have:∀ (l:List Field) (o:Nat),flush P l o n=true->o<=n:=by
    intro l
    induction l with
    |nil=>intro o h;have:=Nat.eq_of_beq_eq_true h;omega
    |cons f l ih=>intro o h;simp only[flush,Bool.and_eq_true] at h;have:=ih _ h.2;omega
   exact hle (this l _ h.2)
theorem trod_array{H:Type}{enc:TypeId×Value->H}{base:Nat}{sp:Nat->Bool}{held:Bool}{fuel k:Nat}{t e:TypeId}{cs:List Value}{x:DataW H×List MemPlace}(ht:P.underlying t=some (.array k e))(h:DataW.trod enc P w base sp held fuel t cs=some x):
  ∃ (xs:List (DataW H×List MemPlace)) (n:Nat),fuel=n+1/\x.1=.agg (xs.map (·.1))/\cs.length=P.cellsOf t/\xs.length=k/\∀ i,i<k->DataW.trod enc P w base sp held n e ((cs.drop (i*P.cellsOf e)).take (P.cellsOf e))=xs[i]?:=by
 cases fuel with
 |zero=>simp [DataW.trod] at h
 |succ n=>
  unfold DataW.trod at h
  rw[ht] at h
  simp only at h
  split at h
  ·rename_i hlen
   obtain⟨xs,h1,h2⟩:=Option.map_eq_some_iff.1 h
   obtain⟨h3,h4⟩:=mapM_some h1
   rw[List.length_range] at h3
   subst h2
   refine⟨xs,n,rfl,rfl,hlen,h3,fun i hi=>?_⟩
   obtain⟨b,e1,e2⟩:=h4 i i (by simp [hi])
   rw[e2,e1]
  ·cases h
theorem zdt{H:Type}{enc:TypeId×Value->H}{base:Nat}{sp:Nat->Bool}{held:Bool}{fuel:Nat}{t:TypeId}{ms:Array (String×TypeId)}{cs:List Value}{p:List MemPlace}(ht:P.underlying t=some (.interface ms))(h:DataW.trod enc P w base sp held fuel t cs=some (.nil,p)):cs=[.nilIface]:=by
 cases fuel with
 |zero=>simp [DataW.trod] at h
 |succ n=>
  unfold DataW.trod at h
  rw[ht] at h
  split at h<;>first|(cases h;done)|skip
  all_goals first
   |rfl
   |(exfalso;simp_all;done)
   |(exfalso;split at h<;>simp_all;done)
theorem zc8{H:Type}{enc:TypeId×Value->H}{base:Nat}{sp:Nat->Bool}{held:Bool}{fuel:Nat}{t:TypeId}{ms:Array (String×TypeId)}{cs:List Value}{p:List MemPlace}{nm:String}{d:DataW H}(ht:P.underlying t=some (.interface ms))(h:DataW.trod enc P w base sp held fuel t cs=some (.iface nm d,p)):∃ u v,cs=[.iface u v]:=by
 cases fuel with
 |zero=>simp [DataW.trod] at h
 |succ n=>
  match cs with
  | []=>simp [DataW.trod,ht] at h
  |_::_::_=>simp [DataW.trod,ht] at h
  | [c]=>
   cases c<;>simp [DataW.trod,ht] at h
   exact⟨_,_,rfl⟩
theorem zdu{cs:List Value}{sz:Nat}:∀ {k o:Nat},cs.length=o+k*sz->((List.range k).map fun i=>(cs.drop (o+i*sz)).take sz).flatten=cs.drop o
 |0,o,h=>by simp;omega
 |k+1,o,h=>by
  have ih:=zdu (cs:=cs) (sz:=sz) (k:=k) (o:=o+sz) (by rw[h,Nat.add_mul];omega)
  rw[List.range_succ_eq_map,List.map_cons,List.flatten_cons,List.map_map]
  have e:((fun i=>(cs.drop (o+i*sz)).take sz) ∘ Nat.succ)=fun i=>(cs.drop (o+sz+i*sz)).take sz:=by
   funext i
   simp only[Function.comp]
   rw[show o+i.succ*sz=o+sz+i*sz from by rw[Nat.succ_eq_add_one,Nat.add_mul];omega]
  rw[e,ih,Nat.zero_mul,Nat.add_zero,<- List.drop_drop]
  exact List.take_append_drop _ _
theorem zfn{H:Type}{enc:TypeId×Value->H}{base:Nat}{held:Bool}(hB:B=w.heap.size)(hz:∃ (b0:Nat) (c:Array Value) (T:TypeId) (fr:Nat×Nat),w.heap[b0]?=some (.cells c T fr)):∀ (m:Nat) (t:TypeId) (d:DataW H) (h:zb) (xs:List AV) (h':zb) (G:Gh),HR G B h w->zmH P m t d h=some (xs,h') ->
  ∀ cs,(∃ n p,DataW.trod enc P w base (fun _=>true) held n t cs=some (d,p))->∃ G',HR G' B h' w/\G.ext G'/\VL G' xs cs
 |0,t,d,h,xs,h',G,hr,hl,cs,_=>by simp [zmH] at hl
 |m+1,t,d,h,xs,h',G,hr,hl,cs,⟨n,p,ht⟩=>by
  have ih:=fun t d h xs h' G=>zfn (enc:=enc) (base:=base) (held:=held) hB hz m t d h xs h' G
  unfold zmH at hl
  split at hl
  ·rename_i b hu
   cases hl
   obtain⟨b',rfl,e⟩:=DataW.trod_bool hu ht
   cases e
   exact⟨G,hr,Gh.zT _,.cons (.bool _) .nil⟩
  ·rename_i k0 k z hu
   cases hl
   obtain⟨b',rfl,e,_⟩:=DataW.trod_int hu ht
   cases e
   exact⟨G,hr,Gh.zT _,.cons (.int _ _) .nil⟩
  ·rename_i l hu
   cases hl
   obtain⟨b',rfl,e,_⟩:=DataW.trod_string hu ht
   cases e
   exact⟨G,hr,Gh.zT _,.cons (.str b'.data.toList) .nil⟩
  ·rename_i e hu
   cases hl
   rcases DataW.trod_pointer hu ht with⟨rfl,_⟩|⟨a,cs',y,n',rfl,rfl,he,_⟩
   ·exact⟨G,hr,Gh.zT _,.cons .zat .nil⟩
   ·cases he
  ·rename_i e d' hu
   split at hl
   ·rename_i x xs h1 hl1
    cases hl
    rcases DataW.trod_pointer hu ht with⟨rfl,he⟩|⟨a,cs',y,n',rfl,rfl,he,hc,hy⟩
    ·cases he
    ·cases he
     obtain⟨G1,r1,l1,v1⟩:=ih e _ h _ _ G hr hl1 cs' ⟨n',_,hy⟩
     have hlen:=v1.length
     have hcl:=(wU hc).1
     simp only[List.length_cons] at hlen
     obtain⟨c,T,fr,q1,q2,q3,q4⟩:=wj hc (by omega)
     have hlt:a.block<B:=by rw[hB];exact(Array.getElem?_eq_some_iff.1 q1).1
     have hr2:=r1.zbr hlt q1 v1 q3 (by simp only[List.length_cons];omega)
     refine⟨_,hr2,l1.trans (Gh.xr _ _),.cons ?_ .nil⟩
     have hV:=V.ptr (G:=G1++[[⟨a.block,0,(x::xs).length,c.size,a.off⟩]]) (loc:=h1.length) (off:=0) (ver:=0) (lim:=xs.length+1) (r:=⟨a.block,0,(x::xs).length,c.size,a.off⟩) (by rw[<- r1.len,wh];rfl) (Nat.le_refl _) (Nat.le_refl _)
     obtain⟨ab,ao,as1⟩:=a
     simp only at q2
     subst q2
     simpa using hV
   ·cases hl
  ·rename_i e hu
   cases hl
   rcases DataW.trod_slice hu ht with⟨rfl,_⟩|⟨a,len,cap,el,rs,n',rfl,rfl,he,_⟩
   ·exact⟨G,hr,Gh.zT _,.cons .qj .nil⟩
   ·cases he
  ·rename_i e d0 l sp hu
   split at hl
   ·rename_i x xs h1 hl1
    cases hl
    rcases DataW.trod_slice hu ht with⟨rfl,he⟩|⟨a,len,cap,el,rs,n',rfl,rfl,he,hba,hlc,hcm,hel,hee,hsp,_⟩
    ·cases he
    ·simp only[Prod.mk.injEq,DataW.slice.injEq] at he
     obtain⟨⟨he1,he2⟩,_⟩:=he
     have hln:len=l.length+1:=by rw[<- hel,<- show(el.map (·.1)).length=el.length from List.length_map _,<- he1];rfl
     obtain⟨hrl,hrr⟩:=hsp rfl
     generalize hsz:P.cellsOf e=sz at *
     have hcell:∀ i,i<cap->∃ cs',w.cells? base (a.add (i*sz)) sz=some cs':=by
      intro i hi
      by_cases hil:i<len
      ·have h0:=hee i hil
       rw[List.getElem?_eq_getElem (by omega)] at h0
       obtain⟨cs',e1,_⟩:=Option.bind_eq_some_iff.1 h0
       exact⟨cs',e1⟩
      ·have h0:=hrr (i-len) (by omega)
       rw[List.getElem?_eq_getElem (by omega),show len+(i-len)=i from by omega] at h0
       obtain⟨cs',e1,_⟩:=Option.bind_eq_some_iff.1 h0
       exact⟨cs',e1⟩
     obtain⟨G1,r1,l1,v1⟩:=wE (Q:=fun(d:DataW H) cs=>∃ n q,DataW.trod enc P w base (fun _=>true) held n e cs=some (d,q)) (fun d h xs h' G hr hl cs hq=>ih e d h xs h' G hr hl cs hq) hr hl1
      (css:=(List.range len).map fun i=>(w.cells? base (a.add (i*sz)) sz).getD []) (by simp [hln]) (fun i d cs' e1 e2=>by
       rw[List.getElem?_map,Option.map_eq_some_iff] at e2
       obtain⟨j,e3,rfl⟩:=e2
       have hik:i<len:=by
        have:=(List.getElem?_eq_some_iff.1 e1).1
        simp only[List.length_cons] at this
        omega
       rw[List.getElem?_range hik] at e3
       cases e3
       rw[he1,List.getElem?_map,Option.map_eq_some_iff] at e1
       obtain⟨y,e6,e7⟩:=e1
       have h0:=hee i hik
       rw[e6] at h0
       obtain⟨cs2,f1,f2⟩:=Option.bind_eq_some_iff.1 h0
       rw[f1]
       exact⟨n',y.2,by rw[<- e7];exact f2⟩)
     have hvl:=v1.length
     have hpos:0<sz:=by
      rcases Nat.eq_zero_or_pos sz with h0|h0
      ·exfalso
       have:((List.range len).map fun i=>(w.cells? base (a.add (i*sz)) sz).getD []).flatten=[]:=by
        rw[List.flatten_eq_nil_iff]
        intro q hq
        obtain⟨i,hi,rfl⟩:=List.mem_map.1 hq
        obtain⟨cs',e1⟩:=hcell i (by have:=List.mem_range.1 hi;omega)
        rw[e1]
        have:=(wU e1).1
        exact List.eq_nil_of_length_eq_zero (by show cs'.length=0;omega)
       rw[this] at hvl
       simp at hvl
      ·exact h0
     obtain⟨c0,ec0⟩:=hcell 0 (by omega)
     obtain⟨c,T,fr,q1,q2,_,_⟩:=wj ec0 hpos
     rw[(js a _).1] at q1
     have ha0:a.add (0*sz)=a:=by simp [Addr.add]
     rw[ha0] at q2
     have hrow:∀ i,i<cap->∀ cs',w.cells? base (a.add (i*sz)) sz=some cs'->cs'.length=sz/\(∀ (k:Nat) (u:Value),cs'[k]?=some u->c[k+(a.off+i*sz)]?=some u)/\sz+(a.off+i*sz)<=c.size:=by
      intro i hi cs' ec
      obtain⟨c2,T2,fr2,g1,_,g3,g4⟩:=wj ec hpos
      rw[(js a _).1,q1] at g1
      cases g1
      rw[(js a _).2] at g3 g4
      exact⟨(wU ec).1,g3,g4⟩
     obtain⟨fl1,fl2⟩:=zgx (c:=c) (sz:=sz) (o:=a.off) (css:=(List.range len).map fun i=>(w.cells? base (a.add (i*sz)) sz).getD []) (fun i cs' e2=>by
      rw[List.getElem?_map,Option.map_eq_some_iff] at e2
      obtain⟨j,e3,rfl⟩:=e2
      have hik:i<len:=by have:=(List.getElem?_eq_some_iff.1 e3).1;simpa using this
      rw[List.getElem?_range hik] at e3
      cases e3
      obtain⟨cs',ec⟩:=hcell i (by omega)
      rw[ec]
      obtain⟨k1,k2,_⟩:=hrow i (by omega) cs' ec
      exact⟨k1,k2⟩)
     rw[List.length_map,List.length_range] at fl1
     obtain⟨csl,ecl⟩:=hcell (cap-1) (by omega)
     obtain⟨_,_,hend⟩:=hrow (cap-1) (by omega) csl ecl
     have hcapsz:cap*sz=sz+(cap-1)*sz:=by
      obtain⟨k,rfl⟩:∃ k,cap=k+1:=⟨cap-1,by omega⟩
      rw[Nat.add_mul];simp;omega
     have hlensz:len*sz<=cap*sz:=Nat.mul_le_mul_right _ hlc
     have hlt:a.block<B:=by rw[hB];exact(Array.getElem?_eq_some_iff.1 q1).1
     have hxl:(x::xs).length=len*sz:=by rw[<- hvl,fl1]
     have hr2:=r1.zbr hlt q1 v1 fl2 (by omega)
     refine⟨_,hr2,l1.trans (Gh.xr _ _),.cons ?_ .nil⟩
     have hV:=V.sl (G:=G1++[[⟨a.block,0,(x::xs).length,c.size,a.off⟩]]) (loc:=h1.length) (off:=0) (len:=len) (sz:=sz) (ver:=0) (cap:=cap) (clip:=false) (r:=⟨a.block,0,(x::xs).length,c.size,a.off⟩) (by rw[<- r1.len,wh];rfl) (Nat.le_refl _) (by show 0+len*sz<=(x::xs).length;omega) hlc
      (by show 0+a.off-0+cap*sz<=c.size;omega) (fun e=>by cases e) (fun _=>by show(x::xs).length<=0+cap*sz;omega) hcm hpos
     obtain⟨ab,ao,as1⟩:=a
     simp only at q2
     subst q2
     rw[<- hln]
     simpa using hV
   ·cases hl
  ·rename_i e rs0 hu
   split at hl
   ·rename_i hpos
    cases hl
    have hpos:0<P.cellsOf e:=by simpa [Nat.blt_eq] using hpos
    rcases DataW.trod_slice hu ht with⟨rfl,he⟩|⟨a,len,cap,el,rs,n',rfl,rfl,he,hba,hlc,hcm,hel,hee,hsp,_⟩
    ·cases he
    ·simp only[Prod.mk.injEq,DataW.slice.injEq] at he
     obtain⟨⟨he1,he2⟩,_⟩:=he
     have hln:len=0:=by rw[<- hel,<- show(el.map (·.1)).length=el.length from List.length_map _,<- he1];rfl
     subst hln
     obtain⟨hrl,hrr⟩:=hsp rfl
     rcases Nat.eq_zero_or_pos cap with h0|h0
     ·subst h0
      obtain⟨b0,c,T,fr,hb0⟩:=hz
      have hr2:=hr.zbr (a:=⟨b0,0,none⟩) (xs:=[]) (cs:=[]) (by show b0<B;rw[hB];exact(Array.getElem?_eq_some_iff.1 hb0).1) hb0 .nil (fun j u hu=>by simp at hu) (by simp)
      refine⟨_,hr2,Gh.xr _ _,.cons ?_ .nil⟩
      exact V.sl0 (r:=⟨b0,0,0,c.size,0⟩) (by rw[<- hr.len,wh];rfl) (Nat.le_refl _) (Nat.le_refl _) (fun _=>Nat.le_refl _) hpos
     ·have hc:∀ i,i<cap->∃ cs',w.cells? base (a.add (i*P.cellsOf e)) (P.cellsOf e)=some cs':=by
       intro i hi
       have h0:=hrr i (by omega)
       rw[List.getElem?_eq_getElem (by omega),Nat.zero_add] at h0
       obtain⟨cs',e1,_⟩:=Option.bind_eq_some_iff.1 h0
       exact⟨cs',e1⟩
      obtain⟨c0,ec0⟩:=hc 0 h0
      obtain⟨c,T,fr,q1,q2,_,_⟩:=wj ec0 hpos
      have ha0:a.add (0*P.cellsOf e)=a:=by simp [Addr.add]
      rw[ha0] at q1 q2
      obtain⟨csl,ecl⟩:=hc (cap-1) (by omega)
      obtain⟨c2,T2,fr2,g1,_,_,g4⟩:=wj ecl hpos
      rw[(js a _).1,q1] at g1
      cases g1
      rw[(js a _).2] at g4
      have hcapsz:cap*P.cellsOf e=P.cellsOf e+(cap-1)*P.cellsOf e:=by
       obtain⟨k,rfl⟩:∃ k,cap=k+1:=⟨cap-1,by omega⟩
       rw[Nat.add_mul];simp;omega
      have hlt:a.block<B:=by rw[hB];exact(Array.getElem?_eq_some_iff.1 q1).1
      have hr2:=hr.zbr (a:=a) (xs:=[]) (cs:=[]) hlt q1 .nil (fun j u hu=>by simp at hu) (by simp only[List.length_nil];omega)
      refine⟨_,hr2,Gh.xr _ _,.cons ?_ .nil⟩
      have hV:=V.sl (G:=G++[[⟨a.block,0,0,c.size,a.off⟩]]) (loc:=h.length) (off:=0) (len:=0) (sz:=P.cellsOf e) (ver:=0) (cap:=cap) (clip:=false) (r:=⟨a.block,0,0,c.size,a.off⟩) (by rw[<- hr.len,wh];rfl) (Nat.le_refl _) (by simp) hlc
       (by show 0+a.off-0+cap*P.cellsOf e<=c.size;omega) (fun e=>by cases e) (fun _=>Nat.zero_le _) hcm hpos
      obtain⟨ab,ao,as1⟩:=a
      simp only at q2
      subst q2
      simpa using hV
   ·cases hl
  ·rename_i fs ds hu
   split at hl
   ·rename_i hq
    obtain⟨ys,n',rfl,he,hlen,hyl,hy⟩:=DataW.trod_struct hu ht
    cases he
    have hfl:=zbc (cs:=cs) hq.1 hlen (Nat.zero_le _)
    rw[List.drop_zero] at hfl
    obtain⟨G1,r1,l1,v1⟩:=wE (Q:=fun(p:Field×DataW H) cs=>∃ n q,DataW.trod enc P w base (fun _=>true) held n p.1.type cs=some (p.2,q)) (fun d h xs h' G hr hl cs hq=>ih d.1.type d.2 h xs h' G hr hl cs hq) hr hl
     (css:=fs.toList.map fun f=>(cs.drop f.offset).take (P.cellsOf f.type)) (by simp [hyl]) (fun i d cs' e1 e2=>by
      rw[List.getElem?_map,Option.map_eq_some_iff] at e2
      obtain⟨f,e3,rfl⟩:=e2
      rw[List.getElem?_zip_eq_some] at e1
      rw[e3] at e1
      obtain⟨e4,e5⟩:=e1
      cases e4
      rw[List.getElem?_map,Option.map_eq_some_iff] at e5
      obtain⟨y,e6,e7⟩:=e5
      have:=hy i d.1 (by simpa using e3)
      rw[e6] at this
      exact⟨n',y.2,by rw[this,<- e7]⟩)
    rw[hfl] at v1
    exact⟨G1,r1,l1,v1⟩
   ·cases hl
  ·rename_i k e ds hu
   split at hl
   ·rename_i hq
    obtain⟨ys,n',rfl,he,hlen,hyl,hy⟩:=trod_array hu ht
    simp only at he
    cases he
    have hfl:=zdu (cs:=cs) (sz:=P.cellsOf e) (k:=k) (o:=0) (by rw[hlen,hq.1];omega)
    simp only[Nat.zero_add,List.drop_zero] at hfl
    obtain⟨G1,r1,l1,v1⟩:=wE (Q:=fun(d:DataW H) cs=>∃ n q,DataW.trod enc P w base (fun _=>true) held n e cs=some (d,q)) (fun d h xs h' G hr hl cs hq=>ih e d h xs h' G hr hl cs hq) hr hl
     (css:=(List.range k).map fun i=>(cs.drop (i*P.cellsOf e)).take (P.cellsOf e)) (by simp [hyl]) (fun i d cs' e1 e2=>by
      rw[List.getElem?_map,Option.map_eq_some_iff] at e1 e2
      obtain⟨y,e6,e7⟩:=e1
      obtain⟨j,e3,rfl⟩:=e2
      have hik:i<k:=by rw[<- hyl];exact(List.getElem?_eq_some_iff.1 e6).1
      rw[List.getElem?_range hik] at e3
      cases e3
      have:=hy i hik
      rw[e6] at this
      exact⟨n',y.2,by rw[this,<- e7]⟩)
    rw[hfl] at v1
    exact⟨G1,r1,l1,v1⟩
   ·cases hl
  ·rename_i ms hu
   cases hl
   have:=zdt hu ht
   subst this
   exact⟨G,hr,Gh.zT _,.cons .xG .nil⟩
  ·rename_i ms nm d hu
   cases hl
   obtain⟨u,v,rfl⟩:=zc8 hu ht
   exact⟨G,hr,Gh.zT _,.cons (.opq u v) .nil⟩
  ·cases hl
theorem HR.zpi{G:Gh}{h:zb}{loc:Nat}{blk blk':Blk}{vs:List Ver}(hr:HR G B h w)(hl:h[loc]?=some blk)(ho:blk.own=false)(ho':blk'.own=false)(hg:G[loc]?=some vs)(hB:ziZ G w blk' vs):HR G B (h.set loc blk') w:=by
 have hlt:=Arr.lt hl
 refine⟨by rw[Arr.length_set];exact hr.len,fun l b vs' h1 h2=>?_,hr.lt,fun l v r b hat h1=>?_,hr.apart,hr.base⟩
 ·rw[Arr.zp] at h1
  split at h1
  ·rename_i e
   subst e
   cases h1
   rw[hg] at h2;cases h2
   exact hB
  ·exact hr.blk l b vs' h1 h2
 ·rw[Arr.zp] at h1
  split at h1
  ·rename_i e
   subst e
   cases h1
   have:=hr.own _ _ _ _ hat hl
   rw[ho] at this
   rw[ho']
   exact this
  ·exact hr.own _ _ _ _ hat h1
end
def zbd(P:Program)(m:Nat):List (String×DataW Unit)->zb->Option zb
 | [],h=>some h
 |(n,d)::r,h=>match P.globalNamed n with
  |some g=>match P.globals[g]? with
   |some v=>match zmH P m v.type d h with
    |some (xs,h1)=>match h1[g]? with
     |some .dead=>if Nat.beq xs.length (P.cellsOf v.type)=true then zbd P m r (h1.set g (.lay xs)) else none
     |_=>none
    |none=>zbd P m r h
   |none=>none
  |none=>none
def za5(P:Program):Gh:=(List.range P.globals.size).map fun g=>match P.globals[g]? with
 |some v=>[⟨g,0,P.cellsOf v.type,P.cellsOf v.type,0⟩]
 |none=>[]
section
variable {P:Program} {B:Nat} {w:World}
theorem ko(hB:B=w.heap.size)(hz:∃ (b0:Nat) (c:Array Value) (T:TypeId) (fr:Nat×Nat),w.heap[b0]?=some (.cells c T fr))(m:Nat):∀ {l:List (String×DataW Unit)} {ps:List MemPlace} {h h':zb} {G:Gh},DataW.LaidVars P w l ps->zbd P m l h=some h'->HR G B h w->(za5 P).ext G->∃ G',HR G' B h' w/\G.ext G'
 | [],ps,h,h',G,hp,hl,hr,hx=>by cases hl;exact⟨G,hr,Gh.zT _⟩
 |(n,d)::l,ps,h,h',G,hp,hl,hr,hx=>by
  obtain⟨g,t,cs,fuel,p,q,e1,e2,e3,e4,e5,_⟩:=hp
  unfold zbd at hl
  rw[e1] at hl
  simp only at hl
  obtain⟨v,ev,rfl⟩:=Option.map_eq_some_iff.1 e2
  rw[ev] at hl
  simp only at hl
  split at hl
  ·rename_i xs h1 hd
   split at hl
   ·rename_i hdead
    split at hl
    ·rename_i hlen
     have hlen:=Nat.eq_of_beq_eq_true hlen
     obtain⟨G1,r1,x1,v1⟩:=zfn hB hz m v.type d h xs h1 G hr hd cs.toList ⟨fuel,p,e4⟩
     have hgl:g<P.globals.size:=(Array.getElem?_eq_some_iff.1 ev).1
     have hgv:(za5 P)[g]?=some [⟨g,0,P.cellsOf v.type,P.cellsOf v.type,0⟩]:=by
      unfold za5
      rw[List.getElem?_map,List.getElem?_range hgl]
      simp only[Option.map_some,ev]
     have hgG:=(hx.trans x1).get hgv
     have hcl:=v1.length
     rw[Array.length_toList] at hcl
     obtain⟨c,T,fr,hw,hc⟩:∃ c T fr,w.heap[g]?=some (.cells c T fr)/\c=cs:=by
      unfold World.var? at e3
      rw[e1] at e3
      simp only[Option.bind_some] at e3
      split at e3
      ·rename_i c T fr hb;cases e3;exact⟨_,T,fr,hb,rfl⟩
      ·cases e3
     subst hc
     have hr2:=r1.zpi (blk':=.lay xs) hdead rfl rfl hgG (.inr ⟨_,rfl,rfl,hlen.symm,c,T,fr,hw,by show c.size=P.cellsOf v.type;omega,by show P.cellsOf v.type+0<=P.cellsOf v.type;omega,fun p' hp'=>by
      have hp2:p'<xs.length:=by rw[hlen];exact hp'
      obtain⟨u,f1,f2⟩:=v1.get (List.getElem?_eq_getElem hp2)
      exact⟨_,u,List.getElem?_eq_getElem hp2,by rw[<- Array.getElem?_toList];exact f1,f2⟩⟩)
     obtain⟨G2,r2,x2⟩:=ko hB hz m e5 hl hr2 (hx.trans x1)
     exact⟨G2,r2,x1.trans x2⟩
    ·cases hl
   ·cases hl
  ·exact ko hB hz m e5 hl hr hx
theorem zlb{g:Nat}{vs:List Ver}(h:(za5 P)[g]?=some vs):g<P.globals.size/\∃ v,P.globals[g]?=some v/\vs=[⟨g,0,P.cellsOf v.type,P.cellsOf v.type,0⟩]:=by
 have hg:g<P.globals.size:=by have:=(List.getElem?_eq_some_iff.1 h).1;simpa [za5] using this
 have hv:P.globals[g]?=some P.globals[g]:=Array.getElem?_eq_getElem hg
 unfold za5 at h
 rw[List.getElem?_map,List.getElem?_range hg] at h
 simp only[Option.map_some,hv,Option.some.injEq] at h
 exact⟨hg,_,hv,h.symm⟩
theorem zeU{g v:Nat}{r:Ver}(h:(za5 P).at g v=some r):g<P.globals.size/\r.b=g:=by
 unfold Gh.at at h
 cases hg:(za5 P)[g]? with
 |none=>rw[hg] at h;cases h
 |some vs=>
  rw[hg] at h
  obtain⟨h1,x,_,rfl⟩:=zlb hg
  refine⟨h1,?_⟩
  cases v with
  |zero=>simp at h;rw[<- h]
  |succ v=>simp at h
theorem zig(hn:P.globals.size<=w.heap.size):HR (za5 P) w.heap.size (Arr.of (List.replicate P.globals.size .dead)) w:=by
 refine⟨by rw[Arr.zjN];simp [za5],fun loc b vs hb hg=>?_,fun loc v r hat=>?_,fun loc v r b hat hb=>?_,fun l1 l2 v1 v2 r1 r2 h1 _ hB _=>?_,Nat.le_refl _⟩
 ·rw[Arr.zjy,List.getElem?_replicate] at hb
  split at hb
  ·cases hb;trivial
  ·cases hb
 ·have:=zeU hat;omega
 ·rw[Arr.zjy,List.getElem?_replicate] at hb
  have:=zeU hat
  split at hb
  ·cases hb
   exact Iff.intro (fun e=>by cases e) (fun e=>by omega)
  ·cases hb
 ·have:=zeU h1;omega
theorem zdH:∀ {laid:List (String×DataW Unit)} {ps:List MemPlace},DataW.LaidVars P w laid ps->laid.isEmpty=false->∃ (b0:Nat) (c:Array Value) (T:TypeId) (fr:Nat×Nat),w.heap[b0]?=some (.cells c T fr)
 | [],_,_,he=>by cases he
 |(n,d)::l,ps,hp,_=>by
  obtain⟨g,t,cs,fuel,p,q,e1,e2,e3,e4,e5,_⟩:=hp
  unfold World.var? at e3
  rw[e1] at e3
  simp only[Option.bind_some] at e3
  split at e3
  ·rename_i c T fr hb;exact⟨g,_,T,fr,hb⟩
  ·cases e3
end
structure zmr(W W':World):Prop where
 os:W'.os=W.os
 output:W'.output=W.output
 size:W.heap.size<=W'.heap.size
 low:∀ b,b<W.heap.size->W'.heap[b]?=W.heap[b]?
theorem zmr.kept{W W':World}(h:zmr W W')(may:MemPlace->Prop):W.keptBut W' may:=by
 refine⟨h.os,h.output,fun i hi=>?_⟩
 rw[h.low i hi]
 cases W.heap[i]? with
 |none=>rfl
 |some o=>cases o<;>first|exact⟨rfl,rfl,rfl,fun _ _=>rfl⟩|exact .inr ⟨rfl,rfl⟩|rfl
theorem zmr.same{W W':World}(h:zmr W W')(p:MemPlace)(hp:p.block<W.heap.size):W.sameAt W' p:=by
 cases p with
 |cell b off=>show W'.cell? _=W.cell? _;unfold World.cell?;rw[h.low b hp]
 |map b=>exact h.low b hp
theorem zjp{G:Gh}{B:Nat}{W W':World}{v:AV}{h':zb}{e:Ending}(hB:B=W.heap.size)(hr:∀ loc v r,G.at loc v=some r->r.b<B)(hc:zi0 G B W (.ret v h') e W'):zmr W W'/\∃ G' u,V G' v u/\e=.returned u:=by
 obtain⟨G',hS,u,hv,rfl⟩:=hc
 exact⟨⟨hS.fr.os,hS.fr.output,hS.fr.size,fun b hb=>hS.fr.low b hb fun loc v r hat hBr e=>by have:=hr _ _ _ hat;omega⟩,G',u,hv,rfl⟩
section
variable {H:Type} {enc:TypeId×Value->H} {P:Program}
theorem zbW{W W':World}(hg:zmr W W'){base:Nat}{sp:Nat->Bool}{held:Bool}:∀ {ts:List TypeId} {vs:List Value} {ds:List (DataW H)} {ps:List MemPlace},
  DataW.TrodAll enc P W base sp held ts vs ds ps->(∀ p ∈ ps,p.block<W.heap.size)->DataW.TrodAll enc P W' base sp held ts vs ds ps
 | [],[],[],ps,h,_=>h
 |t::ts,v::vs,d::ds,ps,h,hp=>by
  obtain⟨p,q,⟨n,h1⟩,h2,rfl⟩:=h
  exact⟨p,q,⟨n,DataW.trod_carry n _ _ _ h1 fun x hx=>hg.same x (hp x (List.mem_append_left _ hx))⟩,zbW hg h2 (fun x hx=>hp x (List.mem_append_right _ hx)),rfl⟩
 | [],[],_::_,_,h,_=>h.elim
 | [],_::_,_,_,h,_=>h.elim
 |_::_,[],_,_,h,_=>h.elim
 |_::_,_::_,[],_,h,_=>h.elim
theorem zkg{fn:Func}{s:ChangeSpec}{W W':World}{args:Array Value}{ds gs:List (DataW H)}{before:List MemPlace}{tb:TypeId}
  (hlo:laidOutB P=true) (hmr:mapsRowed P=true) (hfull:((List.range P.types.size).all fun t=>match P.underlying t with|some (.slice e)=>decide (0<P.cellsOf e)|_=>true)=true)
  (hts:(fn.params.toList.all fun t=>decide (t<P.types.size))=true) (hr:fn.resultTypes=#[tb]) (hb:P.underlying tb=some .bool) (hv:s.vars=[]) (hs:s.fn H ds={ results:=[.lit (.bool true)],args:=ds })
  (hW:DataW.Whole enc P fn.params.toList s.vars false W args.toList ds gs before) (hg:zmr W W'):
  s.post enc P fn false true false false W args (.bool true) W':=by
 have hW0:=hW
 have hlt:=hW.lt
 obtain⟨p,q,hA,hV,rfl,hz,hn⟩:=hW
 rw[hv] at hV
 obtain⟨rfl,rfl⟩:gs=[]/\q=[]:=by
  cases gs with
  |nil=>exact⟨rfl,hV⟩
  |cons=>exact hV.elim
 have hT:∀ t ∈ fn.params.toList,t<P.types.size:=fun t ht=>of_decide_eq_true (List.all_eq_true.1 hts t ht)
 have hA':DataW.TrodAll enc P W 0 (fun b=>decide (b<W.heap.size)) true fn.params.toList args.toList ds p:=
  DataW.TrodAll.respare (kids_rows hlo hmr) (slices_full_of P hfull) hT hA fun x hx=>by simpa using hlt x (List.mem_append_left _ hx)
 refine⟨ds,[],p++[],[],p,[],hW0,?_,?_,?_,hg.kept _,fun e=>by cases e⟩
 ·rw[List.append_nil,hs,hr]
  exact⟨[],[],⟨1,by simp [DataW.trod,hb,Value.cells]⟩,rfl,rfl⟩
 ·rw[List.append_nil,hs]
  exact zbW hg hA' fun x hx=>hlt x (List.mem_append_left _ hx)
 ·rw[List.append_nil,hs,hv];rfl
end
section
variable {P:Program} {hgl:zb} {Gg:Gh} {W0 w:World}
end
def zkk(v:Bool):Option CR->Bool
 |some (.ret (.bool b) _)=>b==v
 |_=>false
theorem ziA{v:Bool}{o:Option CR}(h:zkk v o=true):∃ h',o=some (.ret (.bool v) h'):=by
 unfold zkk at h
 split at h
 ·rename_i b h';exact⟨h',by rw[eq_of_beq h]⟩
 ·cases h
section
variable {H:Type} {enc:TypeId×Value->H} {P:Program} {W:World}
theorem ziJ{P:Program}{w:World}{g:Nat}{t:TypeId}{zero:Array Value}{k:IntKind}(h:w.ShapedOpen P)(hg:g<P.globals.size)
  (h0:((begin P (fun _ _=>0) default).world.heap[g]?).bind Obj.row?=some (zero,t)) (hz:zero.size=1)
  (hb:P.buildable t=true) (hc:P.cellTypes P.depth t=some [t]) (hu:P.underlying t=some (.int k)):
  ∃ m c T fr,w.heap[g]?=some (.cells c T fr)/\c.size=1/\c[0]?=some (.int k m)/\k.min<=m/\m<=k.max:=by
 obtain⟨cs,hh,hs,hr⟩:=h.1 g zero t hg h0
 obtain⟨ts,hts,_,hall⟩:=hr hb
 rw[hc] at hts
 cases hts
 have h1:0<cs.size:=by omega
 obtain⟨u,hu',hok⟩:=hall 0 cs[0] (by simp [h1])
 have:u=t:=by simpa using hu'.symm
 subst this
 unfold Cell.ok at hok
 rw[hu] at hok
 cases hv:cs[0]<;>rw[hv] at hok<;>simp at hok
 case int k' n=>
  obtain⟨rfl,h2,h3⟩:=hok
  exact⟨n,cs,_,_,hh,by omega,by rw[Array.getElem?_eq_getElem h1,hv],h2,h3⟩
theorem zhg{P:Program}{w:World}(h:w.ShapedOpen P)(h0:((((begin P (fun _ _=>0) default).world.heap[P.globals.size-1]?).bind Obj.row?).isSome&&decide (0<P.globals.size))=true):P.globals.size<=w.heap.size:=by
 simp only[Bool.and_eq_true,decide_eq_true_eq] at h0
 obtain⟨⟨zero,t⟩,h1⟩:=Option.isSome_iff_exists.1 h0.1
 obtain⟨cs,hh,_⟩:=h.1 (P.globals.size-1) zero t (by omega) h1
 have:=(Array.getElem?_eq_some_iff.1 hh).1
 omega
theorem zjI{P:Program}{w:World}{laid:List (String×DataW Unit)}{m:Nat}{hgl:zb}(hn:P.globals.size<=w.heap.size)(hm:laidMet P laid w)(hne:laid.isEmpty=false)(hl:zbd P m laid (Arr.of (List.replicate P.globals.size .dead))=some hgl)
  {g:Nat} {c:Array Value} {T:TypeId} {fr:Nat×Nat} {z lo hi:Int} (hd:hgl[g]?=some .dead) (hgt:((P.globals[g]?).map fun v=>P.cellsOf v.type)=some 1) (hc:w.heap[g]?=some (.cells c T fr)) (hcs:c.size=1) (hc0:c[0]?=some (.int .i64 z)) (h1:lo<=z) (h2:z<=hi):
  ∃ Gg,Laid P (hgl.set g (.lay [.iv lo hi])) Gg w.heap.size w:=by
 obtain⟨ps,hv,_⟩:=hm
 obtain⟨G,hr,hx⟩:=ko rfl (zdH hv hne) m hv hl (zig hn) (Gh.zT _)
 obtain⟨v,ev,ecells⟩:=Option.map_eq_some_iff.1 hgt
 have hgl':g<P.globals.size:=(Array.getElem?_eq_some_iff.1 ev).1
 have hgv:(za5 P)[g]?=some [⟨g,0,P.cellsOf v.type,P.cellsOf v.type,0⟩]:=by
  unfold za5
  rw[List.getElem?_map,List.getElem?_range hgl']
  simp only[Option.map_some,ev]
 have hr2:=hr.zpi (blk':=.lay [.iv lo hi]) hd rfl rfl (hx.get hgv) (.inr ⟨_,rfl,rfl,by simp [ecells],c,T,fr,hc,by simp [ecells,hcs],by simp [ecells],fun p hp=>by
  have hp0:p=0:=by
   have:p<P.cellsOf v.type:=hp
   omega
  subst hp0
  exact⟨_,_,rfl,by simpa using hc0,.iv h1 h2⟩⟩)
 refine⟨G,hr2,fun loc v r hat=>hr2.lt _ _ _ hat,fun g hg=>?_⟩
 have hv:P.globals[g]?=some P.globals[g]:=Array.getElem?_eq_getElem hg
 have hgv:(za5 P)[g]?=some [⟨g,0,P.cellsOf (P.globals[g]).type,P.cellsOf (P.globals[g]).type,0⟩]:=by
  unfold za5
  rw[List.getElem?_map,List.getElem?_range hg]
  simp only[Option.map_some,hv]
 exact⟨_,Gh.kL (hx.get hgv) rfl,rfl,rfl,rfl⟩
theorem znN{P:Program}{W:World}{r:Reach}{base:Nat}{t:TypeId}{cs:Array Value}(ha:zeV P t=some false)(h:Value.okWide P W r base t (.agg cs)):False:=by
 unfold Value.okWide at h
 unfold zeV at ha
 cases hu:P.underlying t with
 |none=>rw[hu] at ha;cases ha
 |some d=>
  rw[hu] at ha h
  cases d<;>first|(cases ha;done)|(simp [Cell.okWide,Cell.ok,hu] at h;done)
theorem zol{P:Program}{W:World}{r:Reach}{base:Nat}{t:TypeId}{v:Value}(ha:zeV P t=some true)(h:Value.okWide P W r base t v):∃ l:List Value,v=.agg (List.toArray l):=by
 unfold zeV at ha
 unfold Value.okWide at h
 cases hu:P.underlying t with
 |none=>rw[hu] at ha;cases ha
 |some d=>
  rw[hu] at ha h
  cases d<;>first|(cases ha;done)|(obtain⟨cs,rfl,_⟩:=h;exact⟨cs.toList,by simp⟩)
theorem val_one{P:Program}{W:World}{r:Reach}{base:Nat}{t:TypeId}{v x:Value}(ha:zeV P t=some false)(h:Value.okWide P W r base t v)(hc:v.cells.toList=[x]):v=x:=by
 cases v with
 |agg cs=>exact(znN ha h).elim
 |_=>simpa [Value.cells] using hc
theorem zeS{t:TypeId}{ts:List TypeId}{vs:List Value}{ds:List (DataW H)}{ps:List MemPlace}(h:DataW.TrodAll enc P W 0 (fun _=>true) true (t::ts) vs ds ps):
  ∃ v vs' d ds' p q,vs=v::vs'/\ds=d::ds'/\(∃ n,DataW.trod enc P W 0 (fun _=>true) true n t v.cells.toList=some (d,p))/\DataW.TrodAll enc P W 0 (fun _=>true) true ts vs' ds' q:=by
 match vs,ds,h with
 |v::vs',d::ds',h=>obtain⟨p,q,h1,h2,_⟩:=h;exact⟨v,vs',d,ds',p,q,rfl,rfl,h1,h2⟩
theorem zhY{vs:List Value}{ds:List (DataW H)}{ps:List MemPlace}(h:DataW.TrodAll enc P W 0 (fun _=>true) true [] vs ds ps):vs=[]/\ds=[]:=by
 match vs,ds,h with
 | [],[],_=>exact⟨rfl,rfl⟩
end
end Go.Mx
namespace Go.Sx
open Go Go.Gx Go.Mx
variable [qk]
@[reducible] def wQ{α β γ:Type}(o:α ⊕ β)(f:α->γ)(g:β->γ):γ:=match o with
 |.inl a=>f a
 |.inr b=>g b
def zrc:Lf->Option Bool
 |.b x=>some x
 |_=>none
def zre:Lf->Option Int
 |.i x=>some x
 |_=>none
def zrd:Lf->Option UInt8
 |.c x=>some x
 |_=>none
def zrh:Lf->Option (List UInt8)
 |.s x=>some x
 |_=>none
def zrg:Lf->Option Nat
 |.n x=>some x
 |_=>none
def zrf(u:U):Lf->Option (List (El u))
 |.l v x=>jg v u x
 |_=>none
def zqI(u:U):Lf->Option (El u)
 |.e v x=>if h:v=u then some (h ▸ x) else none
 |_=>none
inductive LK where
 |b|i|c|s|n|l (u:U)|e (u:U)
@[reducible] def LK.T:LK->Type
 |.b=>Bool|.i=>Int|.c=>UInt8|.s=>List UInt8|.n=>Nat|.l u=>List (El u)|.e u=>El u
def LK.g:(k:LK)->Lf->Option k.T
 |.b=>zrc|.i=>zre|.c=>zrd|.s=>zrh|.n=>zrg|.l u=>zrf u|.e u=>zqI u
def LK.m:(k:LK)->k.T->Lf
 |.b=>.b|.i=>.i|.c=>.c|.s=>.s|.n=>.n|.l u=>.l u|.e u=>.e u
@[reducible] def LTs:List LK->Type
 | []=>Unit
 |k::ks=>k.T×LTs ks
def eL:(ks:List LK)->LTs ks->List Lf
 | [],_=>[]
 |k::ks,(x,y)=>k.m x::eL ks y
def dL:(ks:List LK)->List Lf->Option (LTs ks)
 | [],[]=>some ()
 |k::ks,w::ws=>match k.g w,dL ks ws with
  |some a,some b=>some (a,b)
  |_,_=>none
 |_,_=>none
theorem LK.g_s:∀ {k:LK} {w:Lf} {x:k.T},k.g w=some x->w=k.m x
 |.b,w,x,h=>by cases w<;>first|(cases h;rfl)|cases h
 |.i,w,x,h=>by cases w<;>first|(cases h;rfl)|cases h
 |.c,w,x,h=>by cases w<;>first|(cases h;rfl)|cases h
 |.s,w,x,h=>by cases w<;>first|(cases h;rfl)|cases h
 |.n,w,x,h=>by cases w<;>first|(cases h;rfl)|cases h
 |.l u,w,x,h=>by
  cases w<;>first|(cases h;done)|skip
  obtain⟨e,h2⟩:=zy h
  subst e;cases h2;rfl
 |.e u,w,x,h=>by
  cases w<;>first|(cases h;done)|skip
  simp only[LK.g,zqI] at h
  split at h
  ·rename_i e;subst e;cases h;rfl
  ·cases h
theorem zp1:∀ {ks:List LK} {ls:List Lf} {x:LTs ks},dL ks ls=some x->ls=eL ks x
 | [],[],x,h=>rfl
 | [],_::_,x,h=>by cases h
 |_::_,[],x,h=>by cases h
 |k::ks,w::ws,x,h=>by
  simp only[dL] at h
  split at h
  ·rename_i a b ha hb
   cases h
   rw[LK.g_s ha,zp1 hb];rfl
  ·cases h
@[reducible] def Cv(O:Type):List (List LK)->Type
 | []=>Unit
 |ks::r=>(LTs ks->O)×Cv O r
def dO{O:Type}:(oks:List (List LK))->Cv O oks->Nat->List Lf->Option O
 | [],_,_,_=>none
 |ks::_,(f,_),0,os=>(dL ks os).map f
 |_::r,(_,fs),k+1,os=>dO r fs k os
def zpN{O:Type}(kc:KC O):(oks:List (List LK))->Cv O oks->Nat->Prop
 | [],_,_=>True
 |ks::r,(f,fs),j=>(∀ x R κ,kc R (f x) κ=κ j (eL ks x))/\zpN kc r fs (j+1)
theorem zqH{O:Type}{kc:KC O}:∀ {oks:List (List LK)} {cv:Cv O oks} {j:Nat},zpN kc oks cv j->∀ k os o,dO oks cv k os=some o->∀ R κ,kc R o κ=κ (j+k) os
 | [],_,_,_,k,os,o,h=>by cases h
 |ks::r,(f,fs),j,⟨h1,h2⟩,0,os,o,h=>fun R κ=>by
  simp only[dO,Option.map_eq_some_iff] at h
  obtain⟨x,hx,rfl⟩:=h
  rw[h1,zp1 hx];rfl
 |ks::r,(f,fs),j,⟨h1,h2⟩,k+1,os,o,h=>fun R κ=>by
  rw[zqH h2 k os o h R κ,Nat.add_right_comm,Nat.add_assoc]
def lsT{O:Type}(ks:List LK)(F:LTs ks->Option O)(kc:KC O):LS:=fun R ls κ=>((dL ks ls).bind F).bind fun o=>kc R o κ
def ziO:Code->List Nat->Code
 |c,[]=>c
 |.seq a _,0::p=>ziO a p
 |.seq _ b,_::p=>ziO b p
 |.cond _ a _,0::p=>ziO a p
 |.cond _ _ b,_::p=>ziO b p
 |.block _ c,_::p=>ziO c p
 |.loop c,_::p=>ziO c p
 |.rangeFunc _ _ a _,0::p=>ziO a p
 |.rangeFunc _ _ _ b,_::p=>ziO b p
 |_,_=>.skip
def roundOf(fn:Func)(p:List Nat):Code:=match fn.body with
 |some c=>match ziO c p with
  |.loop b=>b
  |_=>.skip
 |none=>.skip
def zmw{α:Type 1}:Option (List α)->Option (List α)->Option (List α)
 |some a,some b=>some (a++b)
 |_,_=>none
def zz(P:Program):Pl->Code->Option (List (Code×LF))
 |.auto,_=>some []
 |.two a b,c=>match c with
  |.seq x y=>zmw (zz P a x) (zz P b y)
  |.cond _ x y=>zmw (zz P a x) (zz P b y)
  |.loop x=>zmw (zz P a x) (zz P b (.loop x))
  |_=>none
 |.one a,c=>match c with
  |.block _ x=>zz P a x
  |.loop x=>zz P a x
  |_=>none
 |.cal _ f a rest,c=>match P.funcs[f]? with
  |some fn=>match fn.body with
   |some b=>zmw (zz P a b) (zz P rest c)
   |none=>none
  |none=>none
 |.by_ g,c=>match c with
  |.loop x=>some [(.loop x,g)]
  |.region id ops true=>some [(.region id ops true,g)]
  |.rangeFunc f ps a b=>some [(.rangeFunc f ps a b,g)]
  |_=>none
 |.yl _ id a b rest,c=>match qk.at_ id with
  |some (_,asg,body)=>zmw (zz P a asg) (zmw (zz P b body) (zz P rest c))
  |none=>zz P rest c
section
variable {P:Program} {gl:GL} {hk:z7}
def kO(P:Program)(gl:GL)(hk:z7):List (Code×LF)->Prop
 | []=>True
 |(c,g)::l=>zgj P gl hk c g/\kO P gl hk l
theorem kO.app:∀ {a b:List (Code×LF)},kO P gl hk (a++b)->kO P gl hk a/\kO P gl hk b
 | [],b,h=>⟨trivial,h⟩
 |_::_,b,⟨h1,h2⟩=>⟨⟨h1,(kO.app h2).1⟩,(kO.app h2).2⟩
theorem wT{α:Type 1}{a b:Option (List α)}{l:List α}(h:zmw a b=some l):∃ x y,a=some x/\b=some y/\l=x++y:=by
 unfold zmw at h
 split at h
 ·cases h;exact⟨_,_,rfl,rfl,rfl⟩
 ·cases h
theorem qw:∀ {pl:Pl} {c:Code} {ls:List (Code×LF)},zz P pl c=some ls->kO P gl hk ls->ja P gl hk pl c
 |.auto,_,_,_,_=>trivial
 |.two a b,c,ls,h,hs=>by
  unfold zz at h
  split at h
  ·obtain⟨x,y,h1,h2,rfl⟩:=wT h
   exact⟨qw h1 (kO.app hs).1,qw h2 (kO.app hs).2⟩
  ·obtain⟨x,y,h1,h2,rfl⟩:=wT h
   exact⟨qw h1 (kO.app hs).1,qw h2 (kO.app hs).2⟩
  ·obtain⟨x,y,h1,h2,rfl⟩:=wT h
   exact⟨qw h1 (kO.app hs).1,qw h2 (kO.app hs).2⟩
  ·cases h
 |.one a,c,ls,h,hs=>by
  unfold zz at h
  split at h
  ·exact qw (pl:=a) h hs
  ·exact qw (pl:=a) h hs
  ·cases h
 |.cal i f a rest,c,ls,h,hs=>by
  unfold zz at h
  split at h
  ·rename_i fn hf
   split at h
   ·rename_i b hb
    obtain⟨x,y,h1,h2,rfl⟩:=wT h
    refine⟨fun fn' b' hf' hb'=>?_,qw h2 (kO.app hs).2⟩
    rw[hf] at hf';cases hf'
    rw[hb] at hb';cases hb'
    exact qw h1 (kO.app hs).1
   ·cases h
  ·cases h
 |.by_ g,c,ls,h,hs=>by
  unfold zz at h
  split at h
  ·cases h;exact hs.1
  ·cases h;exact hs.1
  ·cases h;exact hs.1
  ·cases h
 |.yl _ id a b rest,c,ls,h,hs=>by
  unfold zz at h
  split at h
  ·rename_i ps asg body hc
   obtain⟨x,y,h1,h2,rfl⟩:=wT h
   obtain⟨y1,y2,h3,h4,rfl⟩:=wT h2
   refine⟨fun ps' asg' body' hc'=>?_,qw h4 (kO.app (kO.app hs).2).2⟩
   rw[hc] at hc';cases hc'
   exact⟨qw h1 (kO.app hs).1,qw h3 (kO.app (kO.app hs).2).1⟩
  ·rename_i hc
   exact⟨fun ps asg body hc'=>(by rw[hc] at hc';cases hc'),qw h hs⟩
theorem zeC{f:FuncId}{fn:Func}{pl:Pl}{ls:List (Code×LF)}(hf:P.funcs[f]?=some fn)(h:(match fn.body with|some b=>zz P pl b|none=>none)=some ls)(hs:kO P gl hk ls):∀ fn b,P.funcs[f]?=some fn->fn.body=some b->ja P gl hk pl b:=by
 intro fn' b hf' hb
 rw[hf] at hf';cases hf'
 rw[hb] at h
 exact qw h hs
theorem kO.nil:kO P gl hk []:=trivial
theorem kO.cons{c:Code}{g:LF}{l:List (Code×LF)}(h:zgj P gl hk c g)(t:kO P gl hk l):kO P gl hk ((c,g)::l):=⟨h,t⟩
def zdf:List (FuncId×CF)->CT
 | [],_=>none
 |(f,g)::l,k=>match Nat.beq k f with
  |true=>some g
  |false=>zdf l k
def zhu(P:Program)(gl:GL)(hk:z7):List (FuncId×CF)->Prop
 | []=>True
 |(f,g)::l=>zdg P gl hk f g/\zhu P gl hk l
theorem zdZ:∀ {l:List (FuncId×CF)},zhu P gl hk l->∀ f g,zdf l f=some g->zdg P gl hk f g
 | [],_,f,g,h=>by cases h
 |(f0,g0)::l,⟨h1,h2⟩,f,g,h=>by
  unfold zdf at h
  split at h
  ·rename_i he
   cases h
   rw[Nat.eq_of_beq_eq_true he];exact h1
  ·exact zdZ h2 f g h
def zjB:List (FuncId×CF)->FuncId->Bool
 | [],_=>false
 |(f,_)::l,k=>Nat.beq k f||zjB l k
theorem zfi:∀ {l:List (FuncId×CF)} {k:FuncId},zjB l k=true->∃ g,zdf l k=some g
 | [],k,h=>by cases h
 |(f,g)::l,k,h=>by
  unfold zdf
  cases hb:Nat.beq k f with
  |true=>exact⟨g,rfl⟩
  |false=>simp only[zjB,hb,Bool.false_or] at h;exact zfi h
structure zll(P:Program)(hk:z7)(al:List FuncId):Prop where
 h:∀ f g,hk f=some g->f ∉ al->(P.funcs[f]?).bind (·.body)=none
theorem zom{l:List (FuncId×CF)}{al:List FuncId}(hh:zll P hk al)(ha:(al.all fun f=>zjB l f)=true)(hl:zhu P gl hk l):zi1 P gl (zdf l) hk:=
 ⟨zdZ hl,fun f g hf hc=>hh.h f g hf fun hm=>by
  obtain⟨g',h⟩:=zfi (List.all_eq_true.1 ha f hm)
  rw[hc] at h;cases h⟩
abbrev FT:=List (FuncId×CF)
section
variable {T:FT} {al:List FuncId} (hh:zll P hk al) (ha:(al.all fun f=>zjB T f)=true) (hT:zhu P gl hk T)
include hh ha hT
theorem zqj{n:Nat}(pl:Pl){c:Code}{ls:List (Code×LF)}(h:zz P pl c=some ls)(hs:kO P gl hk ls){pre:List (Nat×U)}{p:PS}{outs:List (SX×PS)}{ks:List LK}{oks:List (List LK)}{O:Type}(G:Nat->LTs ks->Option O)(cv:Cv O oks){kc:KC O}
  (h0:∀ x,G 0 x=none) (hr:∀ m x,round P gl (zdf T) n pl p outs c (eL ks x) (fun ls=>(dL ks ls).bind (G m)) (dO oks cv)=G (m+1) x) (ho:zpN kc oks cv 0) (N:Nat):zgj P gl hk (.loop c) (jH pre p outs (lsT ks (G N) kc)):=
 zik (zom hh ha hT) (qw h hs) (G:=fun m ls=>(dL ks ls).bind (G m)) (od:=dO oks cv)
  (fun ls=>by cases dL ks ls with
   |none=>rfl
   |some x=>exact h0 x)
  (fun m ls o h=>by
   cases hd:dL ks ls with
   |none=>rw[hd] at h;cases h
   |some x=>
    rw[hd] at h
    rw[zp1 hd,hr];exact h)
  (fun k os o h R κ=>by rw[zqH ho k os o h R κ,Nat.zero_add]) N
theorem fnG{n:Nat}{f:FuncId}{us rs:List U}{F:El (kb us)->Option (El (kb rs))}(pl:Pl){fn:Func}(hf:P.funcs[f]?=some fn){ls:List (Code×LF)}(h:(match fn.body with|some b=>zz P pl b|none=>none)=some ls)(hs:kO P gl hk ls)
  (hF:∀ x,jE P gl (zdf T) n pl f (qn us x) [] (zan rs)=F x):zhu P gl hk ((f,kl us rs F)::T):=⟨zjk (zom hh ha hT) (zeC hf h hs) hF,hT⟩
theorem zrb{n:Nat}{f:FuncId}{u:U}{rs:List U}{F:List (El u)->Option (El (kb rs))}(pl:Pl){fn:Func}(hf:P.funcs[f]?=some fn){ls:List (Code×LF)}(h:(match fn.body with|some b=>zz P pl b|none=>none)=some ls)(hs:kO P gl hk ls)
  (h1:∀ l,jE P gl (zdf T) n pl f [.nsl u l] [] (zan rs)=F l) (h2:jE P gl (zdf T) n pl f [.a .qj] [] (zan rs)=F []):zhu P gl hk ((f,kl [.sl u] rs fun x=>F x.1)::T):=⟨zea (zom hh ha hT) (zeC hf h hs) h1 h2,hT⟩
end
section
variable {al:List FuncId} (hh:zll P hk al) {T:FT} (hT:zhu P gl hk T)
include hh hT
theorem zb7(pl:Pl){c:Code}{ls:List (Code×LF)}(hs:kO P gl hk ls){pre:List (Nat×U)}{p:PS}{outs:List (SX×PS)}(ks:List LK)(oks:List (List LK)){O:Type}(G:Nat->LTs ks->Option O)(cv:Cv O oks){kc:KC O}(N:Nat)
  (ha:(al.all fun f=>zjB T f)=true:=by rfl) (n:Nat:=1500) (h:zz P pl c=some ls:=by kernel_rfl) (h0:∀ x,G 0 x=none:=by intro x;rfl) (hr:∀ m x,round P gl (zdf T) n pl p outs c (eL ks x) (fun ls=>(dL ks ls).bind (G m)) (dO oks cv)=G (m+1) x:=by intro m x;kernel_rfl)
  (ho:zpN kc oks cv 0:=by repeat' (first|exact trivial|refine⟨fun _ _ _=>rfl,?_⟩)):zgj P gl hk (.loop c) (jH pre p outs (lsT ks (G N) kc)):=zqj hh ha hT pl h hs G cv h0 hr ho N
theorem fnA{f:FuncId}{us rs:List U}{F:El (kb us)->Option (El (kb rs))}(pl:Pl){fn:Func}(hf:P.funcs[f]?=some fn){ls:List (Code×LF)}(hs:kO P gl hk ls)
  (ha:(al.all fun f=>zjB T f)=true:=by rfl) (n:Nat:=1500) (h:(match fn.body with|some b=>zz P pl b|none=>none)=some ls:=by kernel_rfl)
  (hF:∀ x,jE P gl (zdf T) n pl f (qn us x) [] (zan rs)=F x:=by intro x;kernel_rfl):zhu P gl hk ((f,kl us rs F)::T):=fnG hh ha hT pl hf h hs hF
theorem zra{f:FuncId}{u:U}{rs:List U}{F:List (El u)->Option (El (kb rs))}(pl:Pl){fn:Func}(hf:P.funcs[f]?=some fn){ls:List (Code×LF)}(hs:kO P gl hk ls)
  (ha:(al.all fun f=>zjB T f)=true:=by rfl) (n:Nat:=1500) (h:(match fn.body with|some b=>zz P pl b|none=>none)=some ls:=by kernel_rfl)
  (h1:∀ l,jE P gl (zdf T) n pl f [.nsl u l] [] (zan rs)=F l:=by intro l;kernel_rfl) (h2:jE P gl (zdf T) n pl f [.a .qj] [] (zan rs)=F []:=by kernel_rfl):zhu P gl hk ((f,kl [.sl u] rs fun x=>F x.1)::T):=zrb hh ha hT pl hf h hs h1 h2
end
def dr:Nat->List PV->List PV
 |0,l=>l
 |n+1,l=>.drop::dr n l
theorem w4{f:FuncId}{k:XK}:∀ {tab:List (FuncId×XK)},tab.lookup f=some k->(f,k) ∈ tab
 | [],h=>by cases h
 |(g,k')::l,h=>by
  unfold List.lookup at h
  split at h
  ·rename_i he
   cases h
   rw[eq_of_beq he];exact List.mem_cons_self
  ·exact List.mem_cons_of_mem _ (w4 h)
theorem zlv{tab:List (FuncId×XK)}(h:(tab.all fun p=>((P.funcs[p.1]?).bind (·.body)).isNone)=true):zll P (zex tab) []:=by
 refine⟨fun f g hf _=>?_⟩
 unfold zex at hf
 cases hl:tab.lookup f with
 |none=>rw[hl] at hf;cases hf
 |some k=>
  have:=List.all_eq_true.1 h _ (w4 hl)
  simpa using this
theorem xx{hk:z7}{al:List FuncId}(h:zll P hk al)(f:FuncId)(g:List AV->zb->Option CR):zll P (zt hk f g) (f::al):=by
 refine⟨fun k g' hk' hn=>?_⟩
 unfold zt at hk'
 simp only[List.mem_cons,not_or] at hn
 cases hb:Nat.beq k f with
 |true=>exact absurd (Nat.eq_of_beq_eq_true hb) hn.1
 |false=>rw[hb] at hk';exact h.h k g' hk' hn.2
def zlj:List AV->zb->Option CR:=fun args h=>match args with
 | []=>some (.ret (.bool true) h)
 |_=>none
theorem zlc{hk:z7}{f:FuncId}(h:hk f=some zlj):zdg P gl hk f (kl [] [.bool] fun _=>some (true,())):=by
 intro R args κ r X margs hc hargs hr hg
 unfold kl at hc
 cases args with
 |nil=>
  simp only[qG,Option.bind] at hc
  cases(show margs=[] from hargs)
  refine⟨_,X,.ret (.bool true) X.h,hc,.refl hr,⟨rfl,rfl,rfl⟩,Ev.all fun n=>?_⟩
  simp only[qv,h,zlj]
 |cons=>simp [qG] at hc
end
def Wf:(u:U)->El u->Prop
 |.bool,_=>True
 |.int k,n=>k.min<=n/\(n:Int)<=k.max
 |.u8,_=>True
 |.str,l=>(l:List UInt8).length<=maxLen
 |.sl u,l=>(l:List (El u)).length<=maxLen/\∀ x ∈ (l:List (El u)),Wf u x
 |.slc u,l=>(l:List (El u)).length<=maxLen/\∀ x ∈ (l:List (El u)),Wf u x
 |.pair u v,x=>Wf u x.1/\Wf v x.2
 |.unit,_=>True
def zlh(P:Program):Nat->TypeId->Bool
 |0,_=>false
 |d+1,t=>match P.underlying t with
  |some .bool=>Nat.beq (P.cellsOf t) 1
  |some (.int _)=>Nat.beq (P.cellsOf t) 1
  |some .string=>Nat.beq (P.cellsOf t) 1
  |some (.slice e)=>Nat.beq (P.cellsOf t) 1&&Nat.blt 0 (P.cellsOf e)&&zlh P d e
  |some (.struct fs)=>flush P fs.toList 0 (P.cellsOf t)&&fs.toList.all fun f=>zlh P d f.type
  |_=>false
theorem wM{α:Type}[Inhabited α]{a:Arr α}{l m:List α}:(a++l)++m=a++(l++m):=by
 induction l generalizing a with
 |nil=>rfl
 |cons x l ih=>exact ih (a:=a.push x)
section
variable {P:Program} {B:Nat} {w:World} {H:Type} {enc:TypeId×Value->H} {base:Nat} {held:Bool}
abbrev PhA(h:zb):Nat->Prop:=fun m=>m<h.length
theorem RE.app{h:zb}{u:U}{x:El u}{cs:List AV}(q:RE h (PhA h) u x cs)(E:List Blk):RE (h++E) (PhA (h++E)) u x cs:=
 q.le (fun m hm=>Arr.zY hm) fun m hm=>by show m<(h++E).length;rw[Arr.zq];have:m<h.length:=hm;omega
theorem VL.ext{G G':Gh}(h:G.ext G'){l:List AV}{us:List Value}(q:VL G l us):VL G' l us:=q.le h.le
def Lays(P:Program)(B:Nat)(w:World)(enc:TypeId×Value->H)(base:Nat)(held:Bool)(u:U)(Q:List Value->Prop):Prop:=
 ∀ (G:Gh) (h:zb) (cs:List Value),HR G B h w->Q cs->∃ (G':Gh) (E:List Blk) (x:El u) (avs:List AV),HR G' B (h++E) w/\G.ext G'/\VL G' avs cs/\RE (h++E) (PhA (h++E)) u x avs/\Wf u x
theorem zcQ{d:Nat}(ih:∀ (t:TypeId) (u:U),uOf P d t=some u->zlh P d t=true->Lays P B w enc base held u fun cs=>∃ n d' p,DataW.trod enc P w base (fun _=>true) held n t cs=some (d',p)):
  ∀ (fs:List Field) (u:U),jA (uOf P d) fs=some u->(fs.all fun f=>zlh P d f.type)=true->∀ (G:Gh) (h:zb) (css:List (List Value)),HR G B h w->css.length=fs.length ->
   (∀ (i:Nat) (f:Field) (cs:List Value),fs[i]?=some f->css[i]?=some cs->∃ n d' p,DataW.trod enc P w base (fun _=>true) held n f.type cs=some (d',p)) ->
   ∃ (G':Gh) (E:List Blk) (x:El u) (avs:List AV),HR G' B (h++E) w/\G.ext G'/\VL G' avs css.flatten/\RE (h++E) (PhA (h++E)) u x avs/\Wf u x
 | [],u,hu,hf,G,h,css,hr,hl,hc=>by
  cases hu
  have:css=[]:=List.length_eq_zero_iff.1 hl
  subst this
  exact⟨G,[],(),[],by rw[Arr.jC];exact hr,Gh.zT _,.nil,rfl,trivial⟩
 | [f],u,hu,hf,G,h,css,hr,hl,hc=>by
  match css,hl with
  | [cs],_=>
   simp only[List.all_cons,List.all_nil,Bool.and_true] at hf
   unfold jA at hu
   split at hu
   ·cases hu
   ·obtain⟨G',E,x,avs,h1,h2,h3,h4,h5⟩:=ih _ _ hu hf G h cs hr (hc 0 f cs rfl rfl)
    exact⟨G',E,x,avs,h1,h2,by simpa using h3,h4,h5⟩
 |f::f2::fs,u,hu,hf,G,h,css,hr,hl,hc=>by
  match css,hl with
  |cs::css,hl=>
   simp only[List.all_cons,Bool.and_eq_true] at hf
   unfold jA at hu
   split at hu
   ·rename_i u1 u2 _ e1 e2
    cases hu
    obtain⟨G1,E1,x,avs,h1,h2,h3,h4,h5⟩:=ih _ _ e1 hf.1 G h cs hr (hc 0 f cs rfl rfl)
    obtain⟨G2,E2,y,bvs,k1,k2,k3,k4,k5⟩:=zcQ ih (f2::fs) u2 e2 (by simp only[List.all_cons,Bool.and_eq_true];exact hf.2) G1 (h++E1) css h1 (by simpa using hl) fun i f' cs' q1 q2=>hc (i+1) f' cs' (by simpa using q1) (by simpa using q2)
    refine⟨G2,E1++E2,(x,y),avs++bvs,?_,h2.trans k2,?_,?_,h5,k5⟩
    ·rw[<- wM];exact k1
    ·rw[List.flatten_cons];exact(VL.ext k2 h3).append k3
    ·rw[<- wM]
     exact⟨avs,bvs,rfl,RE.app h4 E2,k4⟩
   ·cases hu
theorem zfq{e:TypeId}{u:U}(hsz:0<u.sz)(ih:Lays P B w enc base held u fun cs=>∃ n d' p,DataW.trod enc P w base (fun _=>true) held n e cs=some (d',p)):
  ∀ (css:List (List Value)) (G:Gh) (h:zb),HR G B h w->(∀ (i:Nat) (cs:List Value),css[i]?=some cs->∃ n d' p,DataW.trod enc P w base (fun _=>true) held n e cs=some (d',p)) ->
   ∃ (G':Gh) (E:List Blk) (l:List (El u)) (avs:List AV),HR G' B (h++E) w/\G.ext G'/\VL G' avs css.flatten/\RCs (h++E) (PhA (h++E)) u l avs/\l.length=css.length/\∀ x ∈ l,Wf u x
 | [],G,h,hr,hc=>⟨G,[],[],[],by rw[Arr.jC];exact hr,Gh.zT _,.nil,⟨by simp,fun i e hi=>by simp at hi⟩,rfl,by simp⟩
 |cs::css,G,h,hr,hc=>by
  obtain⟨G1,E1,x,avs,h1,h2,h3,h4,h5⟩:=ih G h cs hr (hc 0 cs rfl)
  obtain⟨G2,E2,l,bvs,k1,k2,k3,k4,k5,k6⟩:=zfq hsz ih css G1 (h++E1) h1 fun i cs' q=>hc (i+1) cs' (by simpa using q)
  have hal:=h4.length
  refine⟨G2,E1++E2,x::l,avs++bvs,by rw[<- wM];exact k1,h2.trans k2,by rw[List.flatten_cons];exact(VL.ext k2 h3).append k3,⟨?_,fun i e hi=>?_⟩,by simp [k5],fun y hy=>?_⟩
  ·rw[List.length_append,hal,k4.1,List.length_cons,Nat.add_mul];omega
  ·rw[<- wM]
   cases i with
   |zero=>
    simp at hi;subst hi
    have:part u.sz (avs++bvs) 0=avs:=by unfold part;rw[Nat.zero_mul,List.drop_zero,<- hal,List.take_left]
    rw[this];exact RE.app h4 E2
   |succ i=>
    have:part u.sz (avs++bvs) (i+1)=part u.sz bvs i:=by
     unfold part
     rw[show(i+1)*u.sz=avs.length+i*u.sz by rw[hal,Nat.add_mul];omega,<- List.drop_drop,List.drop_left]
    rw[this];exact k4.2 i e (by simpa using hi)
  ·rcases List.mem_cons.1 hy with rfl|hy
   ·exact h5
   ·exact k6 y hy
theorem zk5:∀ {d:Nat} {t:TypeId} {u:U},uOf P d t=some u->zlh P d t=true->u.sz=P.cellsOf t
 |0,t,u,h,_=>by cases h
 |d+1,t,u,h,hf=>by
  unfold uOf at h
  unfold zlh at hf
  split at h
  ·rename_i hu;rw[hu] at hf;cases h;exact(zd hf).symm
  ·rename_i hu;rw[hu] at hf;cases h;exact(zd hf).symm
  ·rename_i hu;rw[hu] at hf;cases h;exact(zd hf).symm
  ·rename_i hu;rw[hu] at hf;cases h;exact(zd hf).symm
  ·rename_i hu;rw[hu] at hf
   simp only[Bool.and_eq_true] at hf
   cases hq:uOf P d _ with
   |none=>rw[hq] at h;cases h
   |some v=>rw[hq] at h;cases h;exact(zd hf.1.1).symm
  ·rename_i fs hu;rw[hu] at hf
   simp only[Bool.and_eq_true] at hf
   have key:∀ (l:List Field) (u:U) (o n:Nat),jA (uOf P d) l=some u->(l.all fun f=>zlh P d f.type)=true->flush P l o n=true->o+u.sz=n:=by
    intro l
    induction l with
    |nil=>intro u o n h1 h2 h3;cases h1;have:=Nat.eq_of_beq_eq_true h3;simpa [U.sz] using this
    |cons f l ih=>
     intro u o n h1 h2 h3
     simp only[List.all_cons,Bool.and_eq_true] at h2
     simp only[flush,Bool.and_eq_true] at h3
     cases l with
     |nil=>
      unfold jA at h1
      split at h1
      ·cases h1
      ·have e1:=zk5 h1 h2.1
       have:=Nat.eq_of_beq_eq_true h3.2
       omega
     |cons f2 l=>
      unfold jA at h1
      split at h1
      ·rename_i u1 u2 _ e1 e2
       cases h1
       have q1:=zk5 e1 h2.1
       have q2:=ih _ _ _ e2 h2.2 h3.2
       simp only[U.sz];omega
      ·cases h1
   have:=key _ _ _ _ h hf.2 hf.1
   omega
  ·cases h
theorem zcO(hB:B=w.heap.size)(hz:∃ (b0:Nat) (c:Array Value) (T:TypeId) (fr:Nat×Nat),w.heap[b0]?=some (.cells c T fr)):∀ (m:Nat) (t:TypeId) (u:U),uOf P m t=some u->zlh P m t=true ->
  Lays P B w enc base held u fun cs=>∃ n d' p,DataW.trod enc P w base (fun _=>true) held n t cs=some (d',p)
 |0,t,u,hu,_=>by cases hu
 |m+1,t,u,hu,hf=>by
  intro G h cs hr ⟨n,d,p,ht⟩
  unfold uOf at hu
  unfold zlh at hf
  split at hu
  ·rename_i hund;rw[hund] at hf;cases hu
   obtain⟨b',rfl,e⟩:=DataW.trod_bool hund ht
   exact⟨G,[],b',[.bool b'],by rw[Arr.jC];exact hr,Gh.zT _,.cons (.bool _) .nil,rfl,trivial⟩
  ·rename_i hund;rw[hund] at hf;cases hu
   obtain⟨b,rfl,_,hw⟩:=DataW.trod_int hund ht
   have hb:0<=b/\b<=255:=by simpa [Lit.wf,IntKind.min,IntKind.max,IntKind.signed,IntKind.bits] using hw
   refine⟨G,[],UInt8.ofNat b.toNat,[.int .u8 b],by rw[Arr.jC];exact hr,Gh.zT _,.cons (.int _ _) .nil,?_,trivial⟩
   show[AV.int .u8 b]=[AV.int .u8 _]
   congr 2
   simp only[UInt8.toNat_ofNat']
   omega
  ·rename_i hund;rw[hund] at hf;cases hu
   obtain⟨b,rfl,_,hw⟩:=DataW.trod_int hund ht
   exact⟨G,[],b,[.int _ b],by rw[Arr.jC];exact hr,Gh.zT _,.cons (.int _ _) .nil,rfl,show _/\_ by simpa [Lit.wf] using hw⟩
  ·rename_i hund;rw[hund] at hf;cases hu
   obtain⟨b,rfl,_,hw⟩:=DataW.trod_string hund ht
   exact⟨G,[],b.data.toList,[.str b.data.toList],by rw[Arr.jC];exact hr,Gh.zT _,.cons (.str _) .nil,rfl,by show b.data.toList.length<=maxLen;rw[Array.length_toList];exact hw⟩
  ·rename_i e hund;rw[hund] at hf
   simp only[Bool.and_eq_true] at hf
   obtain⟨⟨_,hpos⟩,hfe⟩:=hf
   have hpos:=qo hpos
   cases hq:uOf P m e with
   |none=>rw[hq] at hu;cases hu
   |some v=>
    rw[hq] at hu;cases hu
    have hsz:=zk5 hq hfe
    have ih:=zcO hB hz m e v hq hfe
    rcases DataW.trod_slice hund ht with⟨rfl,_⟩|⟨a,len,cap,el,rs,n',rfl,rfl,he,hba,hlc,hcm,hel,hee,hsp,_⟩
    ·exact⟨G,[],[],[.qj],by rw[Arr.jC];exact hr,Gh.zT _,.cons .qj .nil,⟨_,rfl,.inl ⟨rfl,rfl⟩⟩,by show 0<=maxLen;omega,by simp⟩
    ·obtain⟨hrl,hrr⟩:=hsp rfl
     have hcell:∀ i,i<cap->∃ cs',w.cells? base (a.add (i*P.cellsOf e)) (P.cellsOf e)=some cs':=by
      intro i hi
      by_cases hil:i<len
      ·have h0:=hee i hil
       rw[List.getElem?_eq_getElem (by omega)] at h0
       obtain⟨cs',e1,_⟩:=Option.bind_eq_some_iff.1 h0
       exact⟨cs',e1⟩
      ·have h0:=hrr (i-len) (by omega)
       rw[List.getElem?_eq_getElem (by omega),show len+(i-len)=i from by omega] at h0
       obtain⟨cs',e1,_⟩:=Option.bind_eq_some_iff.1 h0
       exact⟨cs',e1⟩
     rcases Nat.eq_zero_or_pos cap with hc0|hc0
     ·have hl0:len=0:=by omega
      subst hc0;subst hl0
      obtain⟨b0,c,T,fr,hb0⟩:=hz
      have hr2:=hr.zbr (a:=⟨b0,0,none⟩) (xs:=[]) (cs:=[]) (by show b0<B;rw[hB];exact(Array.getElem?_eq_some_iff.1 hb0).1) hb0 .nil (fun j u hu=>by simp at hu) (by simp)
      refine⟨_,[.lay []],[],[.sl h.length 0 0 v.sz 0 false],hr2,Gh.xr _ _,.cons ?_ .nil,⟨_,rfl,.inr ⟨h.length,0,0,false,[],rfl,.inl rfl,?_,?_,by simp,fun i e hi=>by simp at hi⟩⟩,by show 0<=maxLen;omega,by simp⟩
      ·exact V.sl0 (r:=⟨b0,0,0,c.size,0⟩) (by rw[<- hr.len,wh];rfl) (Nat.le_refl _) (Nat.le_refl _) (fun _=>Nat.le_refl _) (by omega)
      ·show h.length<(h++[Blk.lay []]).length;rw[Arr.zq];simp
      ·unfold rd
       rw[Arr.zm (Nat.le_refl _),Nat.sub_self]
       simp
     ·obtain⟨c0,ec0⟩:=hcell 0 hc0
      obtain⟨c,T,fr,q1,q2,_,_⟩:=wj ec0 hpos
      rw[(js a _).1] at q1
      have ha0:a.add (0*P.cellsOf e)=a:=by simp [Addr.add]
      rw[ha0] at q2
      have hrow:∀ i,i<cap->∀ cs',w.cells? base (a.add (i*P.cellsOf e)) (P.cellsOf e)=some cs'->cs'.length=P.cellsOf e/\(∀ (k:Nat) (u:Value),cs'[k]?=some u->c[k+(a.off+i*P.cellsOf e)]?=some u)/\P.cellsOf e+(a.off+i*P.cellsOf e)<=c.size:=by
       intro i hi cs' ec
       obtain⟨c2,T2,fr2,g1,_,g3,g4⟩:=wj ec hpos
       rw[(js a _).1,q1] at g1
       cases g1
       rw[(js a _).2] at g3 g4
       exact⟨(wU ec).1,g3,g4⟩
      have hget:∀ (i:Nat) (cs':List Value),((List.range len).map fun i=>(w.cells? base (a.add (i*P.cellsOf e)) (P.cellsOf e)).getD [])[i]?=some cs'->i<len/\w.cells? base (a.add (i*P.cellsOf e)) (P.cellsOf e)=some cs':=by
       intro i cs' e2
       rw[List.getElem?_map,Option.map_eq_some_iff] at e2
       obtain⟨j,e3,rfl⟩:=e2
       have hik:i<len:=by have:=(List.getElem?_eq_some_iff.1 e3).1;simpa using this
       rw[List.getElem?_range hik] at e3
       cases e3
       obtain⟨cs',ec⟩:=hcell i (by omega)
       exact⟨hik,by rw[ec];rfl⟩
      obtain⟨G1,E1,l,avs,r1,l1,v1,c1,len1,wf1⟩:=zfq (by omega) ih ((List.range len).map fun i=>(w.cells? base (a.add (i*P.cellsOf e)) (P.cellsOf e)).getD []) G h hr fun i cs' e2=>by
       obtain⟨hik,ec⟩:=hget i cs' e2
       have h0:=hee i hik
       rw[ec,List.getElem?_eq_getElem (by omega)] at h0
       exact⟨n',_,_,h0⟩
      obtain⟨fl1,fl2⟩:=zgx (c:=c) (sz:=P.cellsOf e) (o:=a.off) (css:=(List.range len).map fun i=>(w.cells? base (a.add (i*P.cellsOf e)) (P.cellsOf e)).getD []) fun i cs' e2=>by
       obtain⟨hik,ec⟩:=hget i cs' e2
       obtain⟨k1,k2,_⟩:=hrow i (by omega) cs' ec
       exact⟨k1,k2⟩
      have len1:l.length=len:=by rw[len1];simp
      rw[List.length_map,List.length_range] at fl1
      obtain⟨csl,ecl⟩:=hcell (cap-1) (by omega)
      obtain⟨_,_,hend⟩:=hrow (cap-1) (by omega) csl ecl
      have hcapsz:cap*P.cellsOf e=P.cellsOf e+(cap-1)*P.cellsOf e:=by
       obtain⟨k,rfl⟩:∃ k,cap=k+1:=⟨cap-1,by omega⟩
       rw[Nat.add_mul];simp;omega
      have hlensz:len*P.cellsOf e<=cap*P.cellsOf e:=Nat.mul_le_mul_right _ hlc
      have hlt:a.block<B:=by rw[hB];exact(Array.getElem?_eq_some_iff.1 q1).1
      have hxl:avs.length=len*P.cellsOf e:=by rw[<- v1.length,fl1]
      have hr2:=r1.zbr hlt q1 v1 fl2 (by omega)
      refine⟨_,E1++[.lay avs],l,[.sl (h++E1).length 0 len v.sz 0 false],by rw[<- wM];exact hr2,l1.trans (Gh.xr _ _),.cons ?_ .nil,⟨_,rfl,.inr ⟨(h++E1).length,0,0,false,avs,by rw[len1],.inl rfl,?_,?_,?_,fun i e hi=>?_⟩⟩,by rw[len1];omega,wf1⟩
      ·have hV:=V.sl (G:=G1++[[⟨a.block,0,avs.length,c.size,a.off⟩]]) (loc:=(h++E1).length) (off:=0) (len:=len) (sz:=v.sz) (ver:=0) (cap:=cap) (clip:=false) (r:=⟨a.block,0,avs.length,c.size,a.off⟩) (by rw[<- r1.len,wh];rfl) (Nat.le_refl _) (by show 0+len*v.sz<=avs.length;rw[hsz];omega) hlc
        (by show 0+a.off-0+cap*v.sz<=c.size;rw[hsz];omega) (fun e=>by cases e) (fun _=>by show avs.length<=0+cap*v.sz;rw[hsz];omega) hcm (by omega)
       obtain⟨ab,ao,as1⟩:=a
       simp only at q2
       subst q2
       simpa using hV
      ·show(h++E1).length<(h++(E1++[Blk.lay avs])).length
       rw[<- wM,Arr.zq (a:=h++E1)];simp
      ·unfold rd
       rw[<- wM,Arr.zm (Nat.le_refl _),Nat.sub_self]
       have:l.length*v.sz=avs.length:=by rw[len1,hxl,hsz]
       simp [this]
      ·rw[len1,hsz,hxl]
      ·rw[<- wM];exact RE.app (c1.2 i e hi) _
  ·rename_i fs hund;rw[hund] at hf
   simp only[Bool.and_eq_true] at hf
   obtain⟨ys,n',rfl,he,hlen,hyl,hy⟩:=DataW.trod_struct hund ht
   have hflat:=zbc (cs:=cs) hf.1 hlen (Nat.zero_le _)
   rw[List.drop_zero] at hflat
   have:=zcQ (fun t u h1 h2=>zcO hB hz m t u h1 h2) fs.toList u hu hf.2 G h (fs.toList.map fun f=>(cs.drop f.offset).take (P.cellsOf f.type)) hr (by simp) fun i f cs' e1 e2=>by
    rw[List.getElem?_map,Option.map_eq_some_iff] at e2
    obtain⟨f2,g2,rfl⟩:=e2
    rw[e1] at g2;cases g2
    have h0:=hy i f (by simpa using e1)
    have hi:i<ys.length:=by rw[hyl];have:=(List.getElem?_eq_some_iff.1 e1).1;simpa using this
    rw[List.getElem?_eq_getElem hi] at h0
    exact⟨n',_,_,h0⟩
   rw[hflat] at this
   exact this
  ·cases hu
end
theorem zi8{P:Program}{W:World}{base:Nat}{t:TypeId}{v:Value}{u:U}{d:Nat}(hu:uOf P (d+1) t=some u)(ha:zeV P t=some u.agg)(hv:Value.okWide P W .any base t v){G:Gh}{avs:List AV}(hx:VL G avs v.cells.toList):
  (u.agg=true->V G (.agg avs) v)/\(u.agg=false->∀ x,avs=[x]->V G x v):=by
 refine⟨fun h=>?_,fun h x hxs=>?_⟩
 ·rw[h] at ha
  obtain⟨l,rfl⟩:=zol ha hv
  exact .agg (by simpa [Value.cells] using hx)
 ·rw[h] at ha
  subst hxs
  cases hc:v.cells.toList with
  |nil=>rw[hc] at hx;cases hx
  |cons y ys=>
   rw[hc] at hx
   cases hx with
   |cons h1 h2=>
    cases h2
    rw[val_one ha hv hc];exact h1
def zp4(n:Nat)(h:zb)(keep:List Nat):GL:=(List.range n).map fun g=>match keep.contains g with
 |true=>match h[g]? with
  |some (.lay cs)=>zmO cs
  |_=>none
 |false=>none
theorem zo4{P:Program}{gl:GL}{n:Nat}{hgl:zb}{keep:List Nat}(h:zp4 n hgl keep=gl)(hn:n<=P.globals.size)(E:List Blk):RGl P gl ⟨hgl++E,PhA (hgl++E),[],[]⟩:=by
 intro g cs hg
 rw[<- h] at hg
 unfold zp4 at hg
 rw[List.getElem?_map] at hg
 cases hr:(List.range n)[g]? with
 |none=>rw[hr] at hg;cases hg
 |some g'=>
  obtain⟨hlt,e⟩:=List.getElem?_eq_some_iff.1 hr
  rw[List.getElem_range] at e
  subst e
  rw[List.length_range] at hlt
  rw[hr] at hg
  simp only[Option.map_some,Option.some.injEq] at hg
  split at hg
  ·split at hg
   ·rename_i cells hrow
    have hl:=Arr.lt hrow
    refine⟨by omega,?_,cells,?_,zbo hg⟩
    ·show g<(hgl++E).length;rw[Arr.zq];omega
    ·exact(Arr.zY hl).trans hrow
   ·cases hg
  ·cases hg
def zhA(P:Program):List TypeId->List U->Bool
 | [],[]=>true
 |t::ts,u::us=>decide (uOf P 6 t=some u)&&zlh P 6 t&&decide (zeV P t=some u.agg)&&zhA P ts us
 |_,_=>false
theorem U.zpG{u:U}(h:u.agg=false):u.sz=1:=by cases u<;>first|rfl|cases h
theorem zfp{P:Program}{B:Nat}{w:World}{H:Type}{enc:TypeId×Value->H}{base:Nat}(hB:B=w.heap.size)(hz:∃ (b0:Nat) (c:Array Value) (T:TypeId) (fr:Nat×Nat),w.heap[b0]?=some (.cells c T fr)):
  ∀ (ts:List TypeId) (us:List U),zhA P ts us=true->∀ (G:Gh) (h:zb) (vs:List Value) (ds:List (DataW H)) (ps:List MemPlace),HR G B h w->DataW.TrodAll enc P w 0 (fun _=>true) true ts vs ds ps ->
   (∀ (j:Nat) t v,ts[j]?=some t->vs[j]?=some v->Value.okWide P w .any base t v) ->
   ∃ (G':Gh) (E:List Blk) (x:El (kb us)) (margs:List AV),HR G' B (h++E) w/\G.ext G'/\VL G' margs vs/\RVs ⟨h++E,PhA (h++E),[],[]⟩ (qn us x) margs/\Wf (kb us) x
 | [],us,ha,G,h,vs,ds,ps,hr,ht,hv=>by
  cases us with
  |cons=>cases ha
  |nil=>
   obtain⟨rfl,rfl⟩:=zhY ht
   exact⟨G,[],(),[],by rw[Arr.jC];exact hr,Gh.zT _,.nil,rfl,trivial⟩
 |t::ts,us,ha,G,h,vs,ds,ps,hr,ht,hv=>by
  cases us with
  |nil=>cases ha
  |cons u us=>
   simp only[zhA,Bool.and_eq_true,decide_eq_true_eq] at ha
   obtain⟨⟨⟨h1,h2⟩,h3⟩,h4⟩:=ha
   obtain⟨v,vs',d,ds',p,q,rfl,rfl,⟨n,h5⟩,h6⟩:=zeS ht
   obtain⟨G1,E1,x,avs,k1,k2,k3,k4,k5⟩:=zcO (enc:=enc) (base:=0) (held:=true) hB hz 6 t u h1 h2 G h _ hr ⟨n,d,p,h5⟩
   obtain⟨a1,a2⟩:=zi8 h1 h3 (hv 0 t v rfl rfl) k3
   obtain⟨G2,E2,y,margs,m1,m2,m3,m4,m5⟩:=zfp hB hz ts us h4 G1 (h++E1) vs' ds' q k1 h6 fun j t' v' e1 e2=>hv (j+1) t' v' (by simpa using e1) (by simpa using e2)
   rw[wM] at m1 m4
   have k6:=RE.app k4 E2
   rw[wM] at k6
   obtain⟨b1,b2⟩:=zd2 (Z:=⟨h++(E1++E2),PhA (h++(E1++E2)),[],[]⟩) rfl rfl k6
   cases hag:u.agg with
   |true=>exact⟨G2,E1++E2,(x,y),.agg avs::margs,m1,k2.trans m2,.cons ((a1 hag).le m2.le) m3,⟨_,_,rfl,b1 hag,m4⟩,k5,m5⟩
   |false=>
    have hl:=k4.length
    rw[U.zpG hag] at hl
    match avs,hl with
    | [a],_=>exact⟨G2,E1++E2,(x,y),a::margs,m1,k2.trans m2,.cons ((a2 hag a rfl).le m2.le) m3,⟨_,_,rfl,b2 hag a rfl,m4⟩,k5,m5⟩
theorem zly{P:Program}{gl:GL}{ct:Nat->CT}{hk:z7}{hgl:zb}{Gg:Gh}{W:World}(hmo:P.follows .mixedOrders=true)(hng:zgi P)(hh:HOK P hgl Gg hk)(hL:Laid P hgl Gg W.heap.size W)(hgl2:∀ E:List Blk,RGl P gl ⟨hgl++E,PhA (hgl++E),[],[]⟩)
  (hct:∀ N,zi1 P gl (ct N) hk) {n:Nat} {pl:Nat->Pl} {f:FuncId} {us:List U} {F:Nat->El (kb us)->Option (El (kb [.bool]))} (hpl:∀ N fn b,P.funcs[f]?=some fn->fn.body=some b->ja P gl hk (pl N) b) (hkf:hk f=none)
  (hF:∀ N x,jE P gl (ct N) n (pl N) f (qn us x) [] (zan [.bool])=F N x) {ts:List TypeId} (ha:zhA P ts us=true) {H:Type} {enc:TypeId×Value->H} {base:Nat} {args:Array Value} {ds:List (DataW H)} {ps:List MemPlace}
  (ht:DataW.TrodAll enc P W 0 (fun _=>true) true ts args.toList ds ps) (hv:∀ (j:Nat) t v,ts[j]?=some t->args.toList[j]?=some v->Value.okWide P W .any base t v)
  (hz:∃ (b0:Nat) (c:Array Value) (T:TypeId) (fr:Nat×Nat),W.heap[b0]?=some (.cells c T fr)) (hlaw:∀ x,Wf (kb us) x->∃ N,F N x=some (true,())):
  Calls P f args W fun e W'=>e=.returned (.bool true)/\zmr W W':=by
 obtain⟨G,E,x,margs,h1,h2,h3,h4,h5⟩:=zfp (B:=W.heap.size) rfl hz ts us ha Gg hgl args.toList ds ps hL.hr ht hv
 have hRH:RH ⟨hgl++E,PhA (hgl++E),[],[]⟩:=⟨rfl,fun i j m v v' h=>by simp at h,fun i m v h=>by simp at h,fun m h=>h,fun i b o h=>by simp at h,fun i m v b h=>by simp at h⟩
 obtain⟨N,hN⟩:=hlaw x h5
 obtain⟨q,Y,mq,k1,S,k2,n0,k3⟩:=(zc2 (hct N) n).2.2.1 (pl N) f (hpl N) _ _ _ _ ⟨hgl++E,PhA (hgl++E),[],[]⟩ margs ((hF N x).trans hN) h4 hRH (hgl2 E)
 have k3:=k3 n0 (Nat.le_refl _)
 cases q with
 |pan v sh=>cases k1
 |ret v sh=>
  cases mq with
  |pan=>cases k2
  |ret xv h'=>
   obtain⟨e1,e2,hv2⟩:=k2
   have hxv:xv=.bool true:=by
    simp only[zan,unS] at k1
    cases v with
    |a w=>cases w with
     |bool b=>
      simp [qG,wq,U.agg,SV.cells,dec] at k1
      cases(show xv=_ from hv2)
      have e:=(Prod.mk.inj (Option.some.inj k1)).1
      rw[e]
     |_=>simp [qG,wq,U.agg,SV.cells,dec] at k1
    |agg=>simp [qG,wq,U.agg] at k1
    |_=>simp [qG,wq,U.agg,SV.cells,dec] at k1
   subst hxv
   simp only[qv,hkf] at k3
   have hG:zau P W.heap.size W G W:=⟨fun g hg=>by
    obtain⟨r,q1,q2⟩:=hL.g g hg
    exact⟨r,h2.le _ _ _ q1,q2⟩,fun _ _=>rfl⟩
   refine(zes (us:=args.toList) hmo hng (hh _ _ hL) k3 h3 h1 hG).mono fun e W' hcr=>?_
   obtain⟨g1,G',u,g2,g3⟩:=zjp rfl (fun loc v r hat=>h1.lt _ _ _ hat) hcr
   cases g2
   exact⟨g3,g1⟩
end Go.Sx
namespace Go.Mx
open Go Go.Gx Go.Proofs Go.Shelf Go.RowKit
def zd1:List AV->Option (List (List UInt8))
 | []=>some []
 |x::l=>match x,zd1 l with
  |.str s,some r=>some (s::r)
  |_,_=>none
def zlM(h:zb):AV->Option (List (List UInt8))
 |.qj=>some []
 |.sl loc off len 1 ver _=>match rd h loc off ver (off+len) len with
  |some cs=>zd1 cs
  |none=>none
 |_=>none
theorem xo{G:Gh}:∀ {cs:List AV} {ls:List (List UInt8)} {us:List Value},zd1 cs=some ls->VL G cs us->us=ls.map za7
 | [],ls,us,h,hv=>by cases h;cases hv;rfl
 |x::l,ls,us,h,hv=>by
  simp only[zd1] at h
  split at h
  ·rename_i s r hr
   cases h
   cases hv with
   |cons h1 h2=>rw[zax h1,xo hr h2];rfl
  ·cases h
theorem jP{G:Gh}{B:Nat}{h:zb}{w w':World}{v:AV}{u:Value}(hr:HR G B h w)(hb:Below w.heap.size w w')(hv:V G v u):zi0 G B w (.ret v h) (.returned u) w':=
 ⟨G,Step.grow hr hb.size hb.block hb.os hb.tape hb.output,u,hv,rfl⟩
theorem zgt(w:World)(n q:Nat):Below n w (w.drewN q):=⟨rfl,rfl,rfl,Nat.le_refl _,fun _ _=>rfl⟩
def zih:Nat:=140737488355328
def zgM:List AV->zb->Option CR:=fun args h=>match args with
 | [x,.str sep]=>match zlM h x with
  |some ls=>if(Lib.join ls sep).length<=zih/\ls.length<=zih then some (.ret (.str (Lib.join ls sep)) h) else none
  |none=>none
 |_=>none
section
variable {P:Program} {ρ:Ren} {hgl:zb} {Gg:Gh} {B:Nat} {W0:World}
theorem zlw(L:Lays.n156 P ρ)(X:Builder.Extra P ρ){args:List AV}{h:zb}{r:CR}(hg:zgM args h=some r):za9 P B W0 (ρ.f 156) args h r:=by
 intro G us w hx hr hgl
 unfold zgM at hg
 split at hg
 ·rename_i x sep
  split at hg
  ·rename_i ls hls
   split at hg
   ·rename_i hc
    obtain⟨c1,c2⟩:=hc
    cases hg
    cases hx with
    |cons h1 h2=>cases h2 with
     |cons h3 h4=>
      cases h4
      have hs:=zax h3
      subst hs
      refine .inl ⟨?_,Go.Proofs.enters_of L.f156 (by kernel_rfl) rfl⟩
      have hmap:(ls.map fun l=>(⟨l.toArray⟩:ByteArray)).map (·.data.toList)=ls:=by
       rw[List.map_map];exact List.map_id _
      have main:∀ (b o c:Nat),ls.length<=c->b<w.heap.size->(∀ (j:Nat) (l:List UInt8),ls[j]?=some l->w.cell? ⟨b,o+j,none⟩=some (za7 l)) ->
        Calls P (ρ.f 156) #[.slice (some ⟨b,o,none⟩) ls.length c,za7 sep] w (zi0 G B w (.ret (.str (Lib.join ls sep)) h)):=by
       intro b o c hlc hbw hcells
       have:=Any.strings_Join L X b o c (ls.map fun l=>(⟨l.toArray⟩:ByteArray)) ⟨sep.toArray⟩ w
        (fun j x hj=>by
         rw[List.getElem?_map,Option.map_eq_some_iff] at hj
         obtain⟨l,hl,rfl⟩:=hj
         exact hcells j l hl) hbw (by rw[List.length_map];exact c2) (by rw[List.length_map];exact hlc) (by rw[hmap];exact c1)
       rw[hmap,List.length_map] at this
       exact this.mono fun e w' ⟨he,hb⟩=>by subst he;exact jP hr hb (.str _)
      unfold zlM at hls
      split at hls
      ·cases hls
       cases h1
       exact(Any.strings_Join_none L X none 0 ⟨sep.toArray⟩ w).mono fun e w' ⟨he,hw⟩=>by subst he;subst hw;exact jP hr (.refl _ _) (.str [])
      ·split at hls
       ·rename_i loc off len ver clip _ cs hrd
        cases h1 with
        | @sl _ _ _ _ _ cap _ r g1 g2 g3 g4 g5 g6 g7 g8 g9=>
         obtain⟨us,o1,o2,o3⟩:=zD hr hrd g1 g2 (by omega)
         have hub:=xo hls o1
         have hln:ls.length=len:=by rw[<- o2,hub];simp
         have:=main r.b (off+r.sh-r.lo) cap (by omega) (hr.lt _ _ _ g1) (fun j l hj=>o3 j _ (by rw[hub];simp [hj]))
         rw[hln] at this
         exact this
        | @sl0 _ _ _ _ a _ r g1 g2 g3 g6 g9=>
         obtain⟨us,o1,o2,o3⟩:=zD hr hrd g1 g2 (by omega)
         have hub:=xo hls o1
         have h0:us=[]:=List.eq_nil_of_length_eq_zero o2
         rw[h0] at hub
         obtain rfl:ls=[]:=by
          cases ls with
          |nil=>rfl
          |cons=>simp at hub
         exact(Any.strings_Join_none L X (some a) 0 ⟨sep.toArray⟩ w).mono fun e w' ⟨he,hw⟩=>by subst he;subst hw;exact jP hr (.refl _ _) (.str [])
       ·cases hls
      ·cases hls
   ·cases hg
  ·cases hg
 ·cases hg
def zi3(B:Nat)(W0:World)(g:Nat):Prop:=∀ w:World,(∀ b,b<B->w.heap[b]?=W0.heap[b]?)->∃ m,w.cell? ⟨g,0,none⟩=some (.int .i64 m)
def zi2(B:Nat)(W0:World)(g:Nat):Prop:=∀ w:World,(∀ b,b<B->w.heap[b]?=W0.heap[b]?)->∃ ev,w.cell? ⟨g,0,none⟩=some ev/\(ev=.nilIface\/∃ te pe,ev=.iface te pe)
theorem Laid.cell(hL:Laid P hgl Gg B W0){g:Nat}(hg:g<P.globals.size){x:AV}(hb:hgl[g]?=some (.lay [x])):∃ u,V Gg x u/\∀ w:World,(∀ b,b<B->w.heap[b]?=W0.heap[b]?)->w.cell? ⟨g,0,none⟩=some u:=by
 obtain⟨r,e1,e2,e3,e4⟩:=hL.g g hg
 obtain⟨u,o1,hcell⟩:=zjL hL.hr hb e1
 rw[e2,e4] at hcell
 have hlt:g<B:=e2 ▸ hL.low _ _ _ e1
 exact⟨u,o1,fun w hw=>by rw[<- hcell];simp only[World.cell?];rw[hw g hlt]⟩
theorem Laid.iv(hL:Laid P hgl Gg B W0){g:Nat}(hg:g<P.globals.size){lo hi:Int}(hb:hgl[g]?=some (.lay [.iv lo hi])):zi3 B W0 g:=fun w hw=>by
 obtain⟨u,h1,h2⟩:=hL.cell hg hb
 cases h1
 exact⟨_,h2 w hw⟩
theorem Laid.opq(hL:Laid P hgl Gg B W0){g:Nat}(hg:g<P.globals.size)(hb:hgl[g]?=some (.lay [.opq])):zi2 B W0 g:=fun w hw=>by
 obtain⟨u,h1,h2⟩:=hL.cell hg hb
 cases h1
 exact⟨_,h2 w hw,.inr ⟨_,_,rfl⟩⟩
def mbs(h:zb):AV->Option (List UInt8)
 |.qj=>some []
 |.sl loc off len 1 ver _=>match rd h loc off ver (off+len) len with
  |some cs=>wA cs
  |none=>none
 |_=>none
theorem zcA(l:List UInt8):Lib.bytesOf (l.map fun c=>(c.toNat:Int))=l:=by
 unfold Lib.bytesOf
 rw[List.map_map]
 conv=>rhs;rw[<- List.map_id l]
 exact List.map_congr_left fun c _=>by simp
theorem zfv{G:Gh}{h:zb}{w:World}{x:AV}{u:Value}{l:List UInt8}(hr:HR G B h w)(he:mbs h x=some l)(hx:V G x u):
  (u=.slice none 0 0/\l=[])\/∃ a c,u=.slice (some a) l.length c/\l.length<=c/\∀ i,i<l.length->w.cell? (a.add i)=some (.int .u8 ((l.map fun c=>(c.toNat:Int)).getD i 0)):=by
 unfold mbs at he
 split at he
 ·cases he;cases hx;exact .inl ⟨rfl,rfl⟩
 ·split at he
  ·rename_i loc off len ver clip _ cs hrd
   cases hx with
   | @sl _ _ _ _ _ cap _ r g1 g2 g3 g4 g5 g6 g7 g8 g9=>
    obtain⟨us,o1,o2,o3⟩:=zD hr hrd g1 g2 (by omega)
    have hub:=z6 he o1
    have hln:l.length=len:=by rw[<- o2,hub];simp
    refine .inr ⟨⟨r.b,off+r.sh-r.lo,none⟩,cap,by rw[hln],by omega,fun i hi=>?_⟩
    rw[Addr.add_lit]
    refine o3 i _ ?_
    rw[hub,List.getElem?_map,List.getElem?_eq_getElem hi,List.getD_eq_getElem?_getD,List.getElem?_map,List.getElem?_eq_getElem hi]
    rfl
   | @sl0 _ _ _ _ o _ r g1 g2 g3 g6 g9=>
    obtain⟨us,o1,o2,o3⟩:=zD hr hrd g1 g2 (by omega)
    have hub:=z6 he o1
    obtain rfl:l=[]:=by
     have:us=[]:=List.eq_nil_of_length_eq_zero o2
     rw[this] at hub
     cases l with
     |nil=>rfl
     |cons=>simp at hub
    exact .inr ⟨o,0,rfl,Nat.le_refl _,fun i hi=>by simp at hi⟩
  ·cases he
 ·cases he
def zaI:List AV->zb->Option CR:=fun args h=>match args with
 | [x,y]=>match mbs h x,mbs h y with
  |some a,some b=>if 0<b.length/\a.length<4294967281/\b.length<4294967281 then some (.ret (.int .i64 (Lib.index a b)) h) else none
  |_,_=>none
 |_=>none
theorem zjG(L:Lays.n185 P ρ)(hm:zi3 B W0 (ρ.g 1)){args:List AV}{h:zb}{r:CR}(hg:zaI args h=some r):za9 P B W0 (ρ.f 185) args h r:=by
 intro G us w hx hr hgl
 unfold zaI at hg
 split at hg
 ·rename_i x y
  split at hg
  ·rename_i a b h1 h2
   split at hg
   ·rename_i hc
    obtain⟨c0,c1,c2⟩:=hc
    cases hg
    cases hx with
    |cons x1 x2=>cases x2 with
     |cons x3 x4=>
      cases x4
      refine .inl ⟨?_,Go.Proofs.enters_of L.f185 (by kernel_rfl) rfl⟩
      obtain⟨m,hcell⟩:=hm w hgl.low
      ·rcases zfv hr h2 x3 with⟨_,rfl⟩|⟨a2,k2,rfl,hk2,hcells2⟩
       ·simp at c0
       ·rcases zfv hr h1 x1 with⟨rfl,rfl⟩|⟨a1,k1,rfl,hk1,hcells1⟩
        ·refine(Any.bytes_Index_nil L (some a2) b.length k2 w (by omega) (fun e=>?_)).mono fun e w' ⟨he,hw⟩=>?_
         ·have h0:=hcells2 0 c0
          have e2:=Lib.plain_of_cell (by simpa [Addr.add] using h0)
          obtain⟨b2,o2,s2⟩:=a2
          simp only[Addr.mk.injEq,true_and] at e2
          subst e2
          exact⟨b2,o2,_,rfl,by simpa [Addr.add] using h0⟩
         ·subst hw
          rw[if_neg (by omega)] at he
          subst he
          have:Lib.index [] b=-1:=by
           cases b with
           |nil=>simp at c0
           |cons=>rfl
          rw[this]
          exact jP hr (.refl _ _) (.int _ _)
        ·have:=Any.bytes_Index_at L a1 a2 a.length k1 b.length k2 (a.map fun c=>(c.toNat:Int)) (b.map fun c=>(c.toNat:Int)) m w (by simp) (by simp)
          (fun z hz=>by obtain⟨c,_,rfl⟩:=List.mem_map.1 hz;exact⟨by omega,by have:=c.toNat_lt;omega⟩)
          (fun z hz=>by obtain⟨c,_,rfl⟩:=List.mem_map.1 hz;exact⟨by omega,by have:=c.toNat_lt;omega⟩) hcells1 hcells2 hk1 c1 (by omega) hcell
         rw[zcA,zcA] at this
         exact this.mono fun e w' ⟨he,q,hw⟩=>by subst he;subst hw;exact jP hr (zgt _ _ _) (.int _ _)
   ·cases hg
  ·cases hg
 ·cases hg
def zmP:Lib.NumEnd Nat->AV
 |.ok u=>.tup [.int .u64 u,.xG]
 |Go.Lib.NumEnd.syntax=>.tup [.int .u64 0,.opq]
 |.range=>.tup [.int .u64 4294967295,.opq]
def zbH:List AV->zb->Option CR:=fun args h=>match args with
 | [.str s,.int .i64 m,.int .i64 n]=>if m=10/\n=32/\s.length<=281474976710656 then some (.ret (zmP (Lib.parseUintB 32 s)) h) else none
 |_=>none
theorem zd7{G:Gh}{h:zb}{w w':World}{t:TypeId}{s:ByteArray}{v:AV}{u:Value}(hr:HR G B h w)(hw:w'=w\/w'=Lib.bytesWorld w t s)(hv:V G v u):zi0 G B w (.ret v h) (.returned u) w':=by
 rcases hw with rfl|rfl
 ·exact jP hr (.refl _ _) hv
 ·exact jP hr (Lib.bytesWorld_below _ _ _) hv
theorem zke(L:LaysPu.n14 P ρ)(hg0:zi2 B W0 (ρ.g 0))(hg1:zi2 B W0 (ρ.g 1)){args:List AV}{h:zb}{r:CR}(hg:zbH args h=some r):za9 P B W0 (ρ.f 14) args h r:=by
 intro G us w hx hr hgl
 unfold zbH at hg
 split at hg
 ·rename_i s m n
  split at hg
  ·rename_i hc
   obtain⟨rfl,rfl,hs⟩:=hc
   cases hg
   cases hx with
   |cons x1 x2=>cases x2 with
    |cons x3 x4=>cases x4 with
     |cons x5 x6=>
      cases x6
      have k1:=zax x1;have k2:=qV x3;have k3:=qV x5
      subst k1;subst k2;subst k3
      refine .inl ⟨?_,Go.Proofs.enters_of L.f14 (by kernel_rfl) rfl⟩
      rcases hp:Lib.parseUintB 32 s with u|_|_
      ·refine(Any.strconv_ParseUint_10_at32_ok L ⟨s.toArray⟩ (by show s.length<=_;omega) u hp w).mono fun e w' ⟨he,hw⟩=>?_
       subst he
       exact zd7 hr hw (.tup (.cons (.int _ _) (.cons .xG .nil)))
      ·obtain⟨ev,q1,q2⟩:=hg0 w hgl.low
       refine(Any.strconv_ParseUint_10_at32_syntax L ⟨s.toArray⟩ hs hp ev w q1 q2).mono fun e w' ⟨N,he,_,_,hw⟩=>?_
       subst he
       exact jP hr hw (.tup (.cons (.int _ _) (.cons (.opq _ _) .nil)))
      ·obtain⟨ev,q1,q2⟩:=hg1 w hgl.low
       refine(Any.strconv_ParseUint_10_at32_range L ⟨s.toArray⟩ hs hp ev w q1 q2).mono fun e w' ⟨N,he,_,_,hw⟩=>?_
       subst he
       exact jP hr hw (.tup (.cons (.int _ _) (.cons (.opq _ _) .nil)))
  ·cases hg
 ·cases hg
def jf(s sep:List UInt8):List (List UInt8):=(Lib.splitB ⟨sep.toArray⟩ 0 (Lib.countB ⟨s.toArray⟩ ⟨sep.toArray⟩) ⟨s.toArray⟩).map (·.data.toList)
def zdV(e:TypeId):List AV->zb->Option CR:=fun args h=>match args with
 | [.str s,.str sep]=>if 0<sep.length/\s.length<4294967281 then some (.ret (.sl h.length 0 (jf s sep).length 1 0 false) (k9 h ((jf s sep).map .str) e)) else none
 |_=>none
theorem zkP(L:Lays.n146 P ρ)(hi9:(P.info? (ρ.t 9)).map (fun i=>(i.zero,i.size,i.bytes))=some (some (.string ByteArray.empty),1,16))(hm:zi3 B W0 (ρ.g 1)){args:List AV}{h:zb}{r:CR}(hg:zdV (ρ.t 9) args h=some r):za9 P B W0 (ρ.f 146) args h r:=by
 intro G us w hx hr hgl
 unfold zdV at hg
 split at hg
 ·rename_i s sep
  ·split at hg
   ·rename_i hc
    obtain⟨c0,c1⟩:=hc
    cases hg
    cases hx with
    |cons x1 x2=>cases x2 with
     |cons x3 x4=>
      cases x4
      have k1:=zax x1;have k2:=zax x3
      subst k1;subst k2
      refine .inl ⟨?_,Go.Proofs.enters_of L.f146 (by kernel_rfl) rfl⟩
      obtain⟨m,hcell⟩:=hm w hgl.low
      ·have h1:1<=(⟨sep.toArray⟩:ByteArray).size:=c0
       have hlen:=Lib.splitB_all ⟨sep.toArray⟩ h1 0 _ ⟨s.toArray⟩ rfl
       refine(Any.strings_Split L hi9 ⟨s.toArray⟩ ⟨sep.toArray⟩ m w (by show s.length<_;omega) hcell h1).mono fun e w' ⟨he,hw⟩=>?_
       subst he
       have hln:(jf s sep).length=Lib.countB ⟨s.toArray⟩ ⟨sep.toArray⟩+1:=by unfold jf;rw[List.length_map,hlen]
       have hcl:Lib.countB ⟨s.toArray⟩ ⟨sep.toArray⟩<=s.length:=Lib.countB_le ⟨sep.toArray⟩ h1 (⟨s.toArray⟩:ByteArray).size ⟨s.toArray⟩ (Nat.le_refl _)
       have hvs:(Lib.splitB ⟨sep.toArray⟩ 0 (Lib.countB ⟨s.toArray⟩ ⟨sep.toArray⟩) ⟨s.toArray⟩).map Value.string=(jf s sep).map za7:=by
        unfold jf
        rw[List.map_map]
        exact List.map_congr_left fun b _=>rfl
       rw[hvs] at hw
       have hvl:∀ {G:Gh} (l:List (List UInt8)),VL G (l.map .str) (l.map za7):=fun {G} l=>by
        induction l with
        |nil=>exact .nil
        |cons x l ih=>exact .cons (.str _) ih
       have hS:=Step.newRow (c:=((jf s sep).map za7).toArray) (T:=ρ.t 9) (w':=w.alloc (.cells ((jf s sep).map za7).toArray (ρ.t 9))) hr (hvl (jf s sep))
        (fun p hp=>by simp)
        (heap_alloc_new w _) (by simp) (fun b hb=>(zav.alloc [] w _).block b hb (by simp)) rfl rfl rfl
       subst hw
       refine⟨_,hS,_,?_,rfl⟩
       rw[<- hr.len,<- hln]
       exact .sl (r:=⟨w.heap.size,0,((jf s sep).map AV.str).length,_,0⟩) (by rw[wh];rfl) (Nat.le_refl _) (by simp) (Nat.le_refl _) (by simp) (fun e=>by cases e) (fun _=>by simp) (by rw[hln];simp only[maxLen];omega) (by omega)
   ·cases hg
 ·cases hg
end
end Go.Mx
namespace Go.Sx
open Go Go.Gx Go.Mx
variable [qk]
def zhS(v:SV)(h:SH):Option (List UInt8):=match v with
 |.a (.str l)=>some l
 |v=>reads .u8 v h
theorem zbV(l:List UInt8):wA (l.map fun b=>AV.int .u8 (b.toNat:Int))=some l:=zar l
theorem RCs.u8{h:zb}{Φ:Nat->Prop}:∀ {l:List UInt8} {cs:List AV},RCs h Φ .u8 l cs->cs=l.map fun b=>AV.int .u8 (b.toNat:Int):=by
 intro l cs q
 refine List.ext_getElem? fun i=>?_
 obtain⟨q1,q2⟩:=q
 have hl:cs.length=l.length:=by rw[q1];exact Nat.mul_one _
 rw[List.getElem?_map]
 cases hi:l[i]? with
 |none=>
  rw[List.getElem?_eq_none_iff] at hi
  rw[List.getElem?_eq_none_iff.2 (by omega)];rfl
 |some e=>
  have h1:=q2 i e hi
  have hlt:=(List.getElem?_eq_some_iff.1 hi).1
  have h2:part 1 cs i=[AV.int .u8 (e.toNat:Int)]:=h1
  rw[zI,Nat.mul_one,List.drop_eq_getElem_cons (by omega)] at h2
  simp only[List.take_succ_cons,List.take_zero,List.cons.injEq,and_true] at h2
  rw[List.getElem?_eq_getElem (by omega),h2];rfl
theorem zbK{X:Gst}(hr:RH X){v:SV}{x:AV}{l:List UInt8}(hv:RV X v x)(h:zhS v X.sh=some l):zbF X.h x=some l:=by
 unfold zhS at h
 split at h
 ·cases h;cases(show x=_ from hv);rfl
 ·rcases wy hr hv h with⟨rfl,rfl⟩|⟨m,off,ver,clip,cs,rfl,q1,q2⟩
  ·rfl
  ·have e:U.u8.sz=1:=rfl
   rw[e,Nat.mul_one] at q1
   rw[e]
   simp only[zbF,q1]
   rw[RCs.u8 q2]
   exact zbV l
def zhF:CF:=fun R args h κ=>match args with
 | [v,.u8 c]=>match zhS v h with
  |some l=>κ (.ret (.a (.int .i64 (kU c l 0))) h)
  |none=>none
 |_=>none
def zjo:CF:=fun R args h κ=>match args with
 | [v,.u8 c]=>match zhS v h with
  |some l=>κ (.ret (.a (.int .i64 (Go.Lib.countByte l c))) h)
  |none=>none
 |_=>none
def zn8:CF:=fun R args h κ=>match args with
 | [.ptr loc off lim]=>κ (.ret (.ptr loc off lim) h)
 |_=>none
theorem zk4(c:UInt8):((c.toNat:Int).toNat).toUInt8=c:=by simp
section
variable {P:Program} {gl:GL} {hk:z7} {f:FuncId}
theorem zbA(h:hk f=some (mx .indexByte)):zdg P gl hk f zhF:=by
 intro R args κ r X margs hc hargs hr hg
 unfold zhF at hc
 split at hc
 ·rename_i v c
  obtain⟨x,t,rfl,q1,y,t2,rfl,q2,q3⟩:=hargs
  cases(show t2=[] from q3)
  cases(show y=_ from q2)
  split at hc
  ·rename_i l hl
   refine⟨_,X,.ret (.int .i64 (kU c l 0)) X.h,hc,.refl hr,⟨rfl,rfl,rfl⟩,Ev.all fun n=>?_⟩
   simp only[qv,h,mx,zbK hr q1 hl,zk4]
  ·cases hc
 ·cases hc
theorem zg9(h:hk f=some (mx .same)):zdg P gl hk f zn8:=by
 intro R args κ r X margs hc hargs hr hg
 unfold zn8 at hc
 split at hc
 ·obtain⟨x,t,rfl,q1,q3⟩:=hargs
  cases(show t=[] from q3)
  refine⟨_,X,.ret x X.h,hc,.refl hr,⟨rfl,rfl,q1⟩,Ev.all fun n=>?_⟩
  simp only[qv,h,mx]
 ·cases hc
theorem ze7(h:hk f=some (mx .count)):zdg P gl hk f zjo:=by
 intro R args κ r X margs hc hargs hr hg
 unfold zjo at hc
 split at hc
 ·rename_i v c
  obtain⟨x,t,rfl,q1,y,t2,rfl,q2,q3⟩:=hargs
  cases(show t2=[] from q3)
  cases(show y=_ from q2)
  split at hc
  ·rename_i l hl
   refine⟨_,X,.ret (.int .i64 (Go.Lib.countByte l c)) X.h,hc,.refl hr,⟨rfl,rfl,rfl⟩,Ev.all fun n=>?_⟩
   simp only[qv,h,mx,zbK hr q1 hl,zk4]
  ·cases hc
 ·cases hc
theorem RCs.strs{h:zb}{Φ:Nat->Prop}{l:List (List UInt8)}{cs:List AV}(q:RCs h Φ .str l cs):cs=l.map AV.str:=by
 refine List.ext_getElem? fun i=>?_
 obtain⟨q1,q2⟩:=q
 have hl:cs.length=l.length:=by rw[q1];exact Nat.mul_one _
 rw[List.getElem?_map]
 cases hi:l[i]? with
 |none=>
  rw[List.getElem?_eq_none_iff] at hi
  rw[List.getElem?_eq_none_iff.2 (by omega)];rfl
 |some e=>
  have h1:=q2 i e hi
  have hlt:=(List.getElem?_eq_some_iff.1 hi).1
  have h2:part 1 cs i=[AV.str e]:=h1
  rw[zI,Nat.mul_one,List.drop_eq_getElem_cons (by omega)] at h2
  simp only[List.take_succ_cons,List.take_zero,List.cons.injEq,and_true] at h2
  rw[List.getElem?_eq_getElem (by omega),h2];rfl
theorem ziR(l:List (List UInt8)):zd1 (l.map AV.str)=some l:=by
 induction l with
 |nil=>rfl
 |cons b l ih=>simp [zd1,ih]
theorem zlN{X:Gst}(hr:RH X){v:SV}{x:AV}{l:List (List UInt8)}(hv:RV X v x)(h:reads .str v X.sh=some l):zlM X.h x=some l:=by
 rcases wy hr hv h with⟨rfl,rfl⟩|⟨m,off,ver,clip,cs,rfl,q1,q2⟩
 ·rfl
 ·have e:U.str.sz=1:=rfl
  rw[e,Nat.mul_one] at q1
  rw[e]
  simp only[zlM,q1]
  rw[RCs.strs q2]
  exact ziR l
theorem zmJ{X:Gst}(hr:RH X){v:SV}{x:AV}{l:List UInt8}(hv:RV X v x)(h:reads .u8 v X.sh=some l):mbs X.h x=some l:=by
 rcases wy hr hv h with⟨rfl,rfl⟩|⟨m,off,ver,clip,cs,rfl,q1,q2⟩
 ·rfl
 ·have e:U.u8.sz=1:=rfl
  rw[e,Nat.mul_one] at q1
  rw[e]
  simp only[mbs,q1]
  rw[RCs.u8 q2]
  exact zbV l
def znw:CF:=fun R args h κ=>match args with
 | [v,.a (.str sep)]=>match reads .str v h with
  |some ls=>cond (Nat.ble (Go.Lib.join ls sep).length zih&&Nat.ble ls.length zih) (κ (.ret (.a (.str (Go.Lib.join ls sep))) h)) none
  |none=>none
 |_=>none
def zcR:Nat:=4294967280
def zjF:CF:=fun R args h κ=>match args with
 | [x,y]=>match reads .u8 x h,reads .u8 y h with
  |some a,some b=>cond (Nat.blt 0 b.length&&(Nat.ble a.length zcR&&Nat.ble b.length zcR)) (κ (.ret (.a (.int .i64 (Go.Lib.index a b))) h)) none
  |_,_=>none
 |_=>none
def zkc{R:Type}(p:Go.Lib.NumEnd Nat)(a:Int->R)(b c:R):R:=match p with
 |.ok u=>a (u:Int)
 |Go.Lib.NumEnd.syntax=>b
 |.range=>c
def zii:Nat:=281474976710656
def zkd:CF:=fun R args h κ=>match args with
 | [.a (.str s),.a (.int .i64 m),.a (.int .i64 n)]=>match decide (m=10),decide (n=32) with
  |true,true=>cond (Nat.ble s.length zii) (zkc (Go.Lib.parseUintB 32 s) (fun u=>κ (.ret (.tup [.a (.int .u64 u),.a .xG]) h)) (κ (.ret (.tup [.a (.int .u64 0),.a .opq]) h)) (κ (.ret (.tup [.a (.int .u64 4294967295),.a .opq]) h))) none
  |_,_=>none
 |_=>none
def zkO:CF:=fun R args h κ=>match args with
 | [.a (.str s),.a (.str sep)]=>cond (Nat.blt 0 sep.length&&Nat.ble s.length zcR) (κ (.ret (.gs h.length 0) (h++[.seq .str (jf s sep) 0 0]))) none
 |_=>none
section
variable {g g0 g1:Nat} {cs:List AV}
theorem zgL(h:hk f=some zgM):zdg P gl hk f znw:=by
 intro R args κ r X margs hc hargs hr hg
 unfold znw at hc
 split at hc
 ·rename_i v sep
  obtain⟨x,t,rfl,q1,y,t2,rfl,q2,q3⟩:=hargs
  cases(show t2=[] from q3)
  cases(show y=_ from q2)
  split at hc
  ·rename_i l hl
   cases hb:(Nat.ble (Go.Lib.join l sep).length zih&&Nat.ble l.length zih) with
   |false=>rw[hb] at hc;cases hc
   |true=>
    rw[hb] at hc
    rw[Bool.and_eq_true] at hb
    refine⟨_,X,.ret (.str (Go.Lib.join l sep)) X.h,hc,.refl hr,⟨rfl,rfl,rfl⟩,Ev.all fun n=>?_⟩
    simp only[qv,h,zgM,zlN hr q1 hl]
    rw[if_pos ⟨Nat.le_of_ble_eq_true hb.1,Nat.le_of_ble_eq_true hb.2⟩]
  ·cases hc
 ·cases hc
theorem zfj(h:hk f=some zaI):zdg P gl hk f zjF:=by
 intro R args κ r X margs hc hargs hr hg
 unfold zjF at hc
 split at hc
 ·rename_i v v2
  obtain⟨x,t,rfl,q1,y,t2,rfl,q2,q3⟩:=hargs
  cases(show t2=[] from q3)
  split at hc
  ·rename_i a b h1 h2
   cases hb:(Nat.blt 0 b.length&&(Nat.ble a.length zcR&&Nat.ble b.length zcR)) with
   |false=>rw[hb] at hc;cases hc
   |true=>
    rw[hb] at hc
    rw[Bool.and_eq_true,Bool.and_eq_true] at hb
    have k1:=Nat.le_of_ble_eq_true hb.1
    have k2:=Nat.le_of_ble_eq_true hb.2.1
    have k3:=Nat.le_of_ble_eq_true hb.2.2
    unfold zcR at k2 k3
    refine⟨_,X,.ret (.int .i64 (Go.Lib.index a b)) X.h,hc,.refl hr,⟨rfl,rfl,rfl⟩,Ev.all fun n=>?_⟩
    simp only[qv,h,zaI,zmJ hr q1 h1,zmJ hr q2 h2]
    rw[if_pos ⟨by omega,by omega,by omega⟩]
  ·cases hc
 ·cases hc
theorem zfR(h:hk f=some zbH):zdg P gl hk f zkd:=by
 intro R args κ r X margs hc hargs hr hg
 unfold zkd at hc
 split at hc
 ·rename_i s m n
  obtain⟨x,t,rfl,q1,y,t2,rfl,q2,z,t3,rfl,q3,q4⟩:=hargs
  cases(show t3=[] from q4)
  cases(show x=_ from q1);cases(show y=_ from q2);cases(show z=_ from q3)
  split at hc
  ·rename_i e1 e2
   have e1:=of_decide_eq_true e1
   have e2:=of_decide_eq_true e2
   subst e1;subst e2
   cases hb:Nat.ble s.length zii with
   |false=>rw[hb] at hc;cases hc
   |true=>
    rw[hb] at hc
    have k1:=Nat.le_of_ble_eq_true hb
    unfold zii at k1
    have hm:∀ n,qv P hk (ql P hk n) (.f f) [.str s,.int .i64 10,.int .i64 32] X.h=some (.ret (zmP (Go.Lib.parseUintB 32 s)) X.h):=fun n=>by
     simp [qv,h,zbH,k1]
    simp only[cond_true] at hc
    rcases hp:Go.Lib.parseUintB 32 s with u|_|_
    ·rw[hp] at hc
     exact⟨_,X,.ret (.tup [.int .u64 (u:Int),.xG]) X.h,hc,.refl hr,⟨rfl,rfl,_,rfl,_,_,rfl,rfl,_,_,rfl,rfl,rfl⟩,Ev.all fun n=>by rw[hm n,hp];rfl⟩
    ·rw[hp] at hc
     exact⟨_,X,.ret (.tup [.int .u64 0,.opq]) X.h,hc,.refl hr,⟨rfl,rfl,_,rfl,_,_,rfl,rfl,_,_,rfl,rfl,rfl⟩,Ev.all fun n=>by rw[hm n,hp];rfl⟩
    ·rw[hp] at hc
     exact⟨_,X,.ret (.tup [.int .u64 4294967295,.opq]) X.h,hc,.refl hr,⟨rfl,rfl,_,rfl,_,_,rfl,rfl,_,_,rfl,rfl,rfl⟩,Ev.all fun n=>by rw[hm n,hp];rfl⟩
  ·cases hc
 ·cases hc
theorem RCs.znR{h:zb}{Φ:Nat->Prop}(l:List (List UInt8)):RCs h Φ .str l (l.map AV.str):=by
 refine⟨by simp [U.sz],fun i e hi=>?_⟩
 have hi':(l.map AV.str)[i]?=some (AV.str e):=by rw[List.getElem?_map,hi];rfl
 obtain⟨hlt,e2⟩:=List.getElem?_eq_some_iff.1 hi'
 rw[zI,show i*U.str.sz=i from Nat.mul_one i,show U.str.sz=1 from rfl,List.drop_eq_getElem_cons hlt,e2];rfl
theorem zf5{e:TypeId}(h:hk f=some (zdV e)):zdg P gl hk f zkO:=by
 intro R args κ r X margs hc hargs hr hg
 unfold zkO at hc
 split at hc
 ·rename_i s sep
  obtain⟨x,t,rfl,q1,y,t2,rfl,q2,q3⟩:=hargs
  cases(show t2=[] from q3)
  cases(show x=_ from q1);cases(show y=_ from q2)
  cases hb:(Nat.blt 0 sep.length&&Nat.ble s.length zcR) with
  |false=>rw[hb] at hc;cases hc
  |true=>
   rw[hb] at hc
   rw[Bool.and_eq_true] at hb
   have k1:=Nat.le_of_ble_eq_true hb.1
   have k2:=Nat.le_of_ble_eq_true hb.2
   unfold zcR at k2
   obtain⟨Y,h5,h6,h7,h8⟩:=xC hr (u:=.str) (l:=jf s sep) (tt:=some e) (hc:=RCs.znR _)
   refine⟨_,Y,.ret (.sl X.h.length 0 (jf s sep).length 1 0 false) (k9 X.h ((jf s sep).map .str) e),hc,h5,⟨h6,h7,h8⟩,Ev.all fun n=>?_⟩
   simp only[qv,h,zdV]
   rw[if_pos ⟨by omega,by omega⟩]
 ·cases hc
end
end
end Go.Sx
namespace Go.Mx
open Go Go.Gx

end Go.Mx
namespace Go.Sx
open Go Go.Gx Go.Mx
variable [qk]
section
variable (P:Program) (gl:GL) (ct:CT) {R:Type}
end
section
variable {P:Program} {gl:GL} {ct:CT} {hk:z7} {q:FuncId->Bool} {l:List Oper} {env0:Arr AV} {X0 X:Gst} {recs:List Rec} {env:List SV} {h:SH} {me:Arr AV}
def zo3(fn:Func)(p:List Nat):Code:=match fn.body with
 |some c=>ziO c p
 |none=>.skip
end
def zpW(P:Program)(gl:GL)(ct:CT)(n:Nat)(pl:Pl)(id:Nat)(g:Operand):LF:=fun R st K=>match sev gl st.env g with
 |some (.fn f first cap)=>match(P.funcs[f]?).bind (·.body) with
  |some _=>jE P gl ct n (pl.at 0 f) f (first++[.yld st.h.length]++cap) (st.h++[.loop st.env id 0]) fun r=>match r with
   |.ret _ h2=>match h2[st.h.length]? with
    |some (.loop _ _ 0)=>K .normal ⟨st.env,h2.set st.h.length .gone⟩
    |_=>none
   |.pan _ _=>none
  |none=>none
 |_=>none
section
variable {P:Program} {gl:GL} {ct:CT} {hk:z7}
theorem zhR(hct:zi1 P gl ct hk){n:Nat}{pl:Pl}{id:Nat}{ps:Array Tmp}{asg body:Code}(hc:qk.at_ id=some (ps,asg,body)){f:FuncId}(hpl:∀ fn b,P.funcs[f]?=some fn->fn.body=some b->ja P gl hk pl b)
  {k:Nat×Option Nat} {X:Gst} {st:SS} {env:Arr AV} {dl:List Dfd} {rnd:Option Nat} (henv:RVs X st.env env.toL) (hsh:X.sh=st.h) (hdk:Dk k X dl rnd) (hr:RH X) (hg:RGl P gl X) {first cap:List SV} {mf mc:List AV} (hf:RVs X first mf) (hcp:RVs X cap mc)
  {R:Type} {K:SX->SS->Option R} {r:R} (h:jE P gl ct n pl f (first++[.yld st.h.length]++cap) (st.h++[.loop st.env id 0]) (fun r=>match r with
   |.ret _ h2=>match h2[st.h.length]? with
    |some (.loop _ _ 0)=>K .normal ⟨st.env,h2.set st.h.length .gone⟩
    |_=>none
   |.pan _ _=>none)=some r):
  ∃ st' Y ms',K .normal st'=some r/\Stp X Y/\StR k Y st' ms'/\Ev fun m=>jd X.h.length env dl rnd (qv P hk (ql P hk m) (.f f) (mf++[.yld X.h.length]++mc) (X.h++[Blk.loop env ps asg body .ready none]))=some (.normal,ms'):=by
 have S1:=Stp.push hr (b:=.loop st.env id 0) (blk:=.loop env ps asg body .ready none) (by simp [SB.md]) (fun hle=>⟨X.h.length,env,ps,asg,body,rfl,hc,by
  show(X.h++[_])[X.h.length]?=_
  rw[Arr.zm (Nat.le_refl _),Nat.sub_self];rfl,henv.le hle⟩)
 generalize hX1:(⟨X.h++[Blk.loop env ps asg body .ready none],X.Φ,X.σ++[some (X.h.length,0)],X.sh++[.loop st.env id 0]⟩:Gst)=X1 at S1
 have hσ1:X1.σ[st.h.length]?=some (some (X.h.length,0)):=by
  rw[<- hX1,<- hsh,<- hr.len]
  show(X.σ++[_])[X.σ.length]?=_
  rw[List.getElem?_append_right (Nat.le_refl _),Nat.sub_self];rfl
 have hargs:RVs X1 (first++[.yld st.h.length]++cap) (mf++[.yld X.h.length]++mc):=((hf.le S1.le).append (.one (show RV X1 (.yld st.h.length) (.yld X.h.length) from⟨_,⟨0,hσ1⟩,rfl⟩))).append (hcp.le S1.le)
 have hsh1:X1.sh=st.h++[.loop st.env id 0]:=by rw[<- hX1,<- hsh]
 have hh1:X1.h=X.h++[Blk.loop env ps asg body .ready none]:=by rw[<- hX1]
 rw[<- hsh1] at h
 obtain⟨q,Y,mq,h1,S2,hcr,ev⟩:=(zc2 hct n).2.2.1 pl f hpl R _ _ r X1 _ h hargs S1.hr (hg.le S1.le)
 cases q with
 |pan v sh=>cases h1
 |ret v sh=>
  cases mq with
  |pan=>cases hcr
  |ret x h'=>
   obtain⟨e1,e2,hv⟩:=hcr
   simp only at h1
   split at h1
   ·rename_i env2 id2 hb
    rw[<- e1] at hb
    obtain⟨v',hσ2⟩:=S2.le.at_ _ _ _ hσ1
    obtain⟨m',env3,ps3,asg3,body3,e3,_,hrow,_⟩:=S2.hr.blk _ _ _ hb hσ2
    cases e3
    have hm:=S2.hr.lt _ _ _ hσ2
    have S3:Stp Y ⟨Y.h.set X.h.length (.loop env3 ps3 asg3 body3 .exhausted none),Y.Φ,Y.σ,Y.sh.set st.h.length .gone⟩:=
     Stp.turn S2.hr (b':=.gone) (o':=some (X.h.length,0)) hb hσ2 (by simp) (fun m hm' hne=>Arr.zl fun e=>hne 0 (e ▸ rfl)) (fun _ _ _=>.inr rfl) (by show _<=(Y.h.set _ _).length;rw[Arr.length_set];exact Nat.le_refl _) (fun m=>⟨.inl,fun h=>h.elim (fun h=>h) fun h=>by cases h.1⟩) (z8 hσ2).symm rfl
      (fun _ _ e=>by cases e;exact⟨by show _<(Y.h.set _ _).length;rw[Arr.length_set];exact hm,.inl ⟨_,rfl⟩⟩) (fun m v e=>⟨v,e⟩) (fun _ _ _ _ e=>by cases e) (fun h=>absurd rfl h) (fun _=>.inr rfl) fun _=>trivial
    have S:=S1.trans (S2.trans S3)
    refine⟨_,_,⟨env,Y.h.set X.h.length (.loop env3 ps3 asg3 body3 .exhausted none),dl,rnd⟩,h1,S,⟨henv.le S.le,by rw[<- e1],rfl,hdk.step hr S⟩,ev.mono fun m p=>?_⟩
    rw[hh1] at p
    rw[p]
    simp only[jd,<- e2,hrow,zio]
   ·cases h1
theorem zkm(hct:zi1 P gl ct hk){n:Nat}{pl:Pl}{id:Nat}{g:Operand}{ps:Array Tmp}{asg body:Code}(hc:qk.at_ id=some (ps,asg,body))(hpl:∀ f fn b,P.funcs[f]?=some fn->fn.body=some b->ja P gl hk (pl.at 0 f) b):
  zgj P gl hk (.rangeFunc g ps asg body) (zpW P gl ct n pl id g):=by
 intro k R st K r X ms h hst hr hg
 unfold zpW at h
 split at h
 ·rename_i f first cap hev
  split at h
  ·rename_i bd hbd
   obtain⟨x,q1,mf,mc,rfl,hf,hcp⟩:=za3 hst.env hg hev
   rw[hst.h] at q1
   have hsome:((P.funcs[f]?).bind (·.body)).isSome=true:=by rw[hbd];rfl
   cases hk2:ms.rnd with
   |none=>
    have S1:=Stp.grow hr [Blk.dfr]
    have hlen:(X.h++[Blk.dfr]).length=X.h.length+1:=by rw[Arr.zq];rfl
    have D0:=hst.dk.step hr S1
    have D1:Dk k ⟨X.h++[Blk.dfr],X.Φ,X.σ,X.sh⟩ (.mark X.h.length::ms.dl) ms.rnd:=by
     refine⟨D0.base,List.nodup_cons.2 ⟨fun hin=>?_,D0.nd⟩,fun d hd=>?_,D0.rnd,D0.lo⟩
     ·obtain⟨m,e,_,_,hk,_⟩:=hst.dk.dl _ hin
      cases e
      exact absurd hk.lt (Nat.lt_irrefl _)
     ·rcases List.mem_cons.1 hd with rfl|hd
      ·refine⟨X.h.length,rfl,hst.dk.base,by show(X.h++[_])[X.h.length]?=_;rw[Arr.zm (Nat.le_refl _),Nat.sub_self];rfl,⟨by show _<(X.h++[Blk.dfr]).length;rw[hlen];omega,fun e=>absurd (hr.Φlt _ e) (Nat.lt_irrefl _),fun i v b _ e=>absurd (hr.lt _ _ _ e) (Nat.lt_irrefl _)⟩,fun i v e=>absurd (hr.lt _ _ _ e) (Nat.lt_irrefl _)⟩
      ·exact D0.dl d hd
    obtain⟨st',Y,ms',h1,S2,hs2,ev⟩:=zhR hct hc (hpl f) (X:=⟨X.h++[Blk.dfr],X.Φ,X.σ,X.sh⟩) (hst.env.le S1.le) hst.sh D1 S1.hr (hg.le S1.le) (hf.le S1.le) (hcp.le S1.le) h
    refine⟨.normal,st',Y,.normal,ms',h1,S1.trans S2,hs2,trivial,Ev.succ (ev.mono fun m p=>?_)⟩
    simp only[ql,zU,zdN,q1,hk2]
    rw[if_pos hsome,<- hst.h]
    simp only[hlen,hk2] at p
    exact p
   |some lo=>
    have hk3:k.2=some lo:=by rw[<- hst.dk.rnd,hk2]
    obtain⟨⟨e5,ps5,a5,b5,s5,p5,hlo⟩,_⟩:=hst.dk.lo lo hk3
    obtain⟨st',Y,ms',h1,S2,hs2,ev⟩:=zhR hct hc (hpl f) hst.env hst.sh hst.dk hr hg hf hcp h
    refine⟨.normal,st',Y,.normal,ms',h1,S2,hs2,trivial,Ev.succ (ev.mono fun m p=>?_)⟩
    simp only[ql,zU,zdN,q1,hk2]
    rw[if_pos hsome,<- hst.h,hlo]
    simp only[hk2] at p
    exact p
  ·cases h
 ·cases h
end
def zeE(fn:Func)(p:List Nat):Option (Array Tmp×Code×Code):=match fn.body with
 |some c=>match ziO c p with
  |.rangeFunc _ ps asg body=>some (ps,asg,body)
  |_=>none
 |none=>none
def znW(P:Program)(gl:GL)(ct:CT)(fn:Func)(p:List Nat)(id:Nat)(pl:Pl)(n:Nat:=1500):LF:=match fn.body with
 |some c=>match ziO c p with
  |.rangeFunc g _ _ _=>zpW P gl ct n pl id g
  |_=>fun _ _ _=>none
 |none=>fun _ _ _=>none
section
variable {P:Program} {gl:GL} {hk:z7} {al:List FuncId} (hh:zll P hk al) {T:FT} (hT:zhu P gl hk T)
include hh hT
theorem zrp{n:Nat}{pl:Pl}{id:Nat}{g:Operand}{ps:Array Tmp}{asg body:Code}{ls:List (Code×LF)}(ha:(al.all fun f=>zjB T f)=true)(hs:kO P gl hk ls)(hc:qk.at_ id=some (ps,asg,body))(h:zz P pl .skip=some ls):
  zgj P gl hk (.rangeFunc g ps asg body) (zpW P gl (zdf T) n pl id g):=zkm (zom hh ha hT) hc fun f fn b hf hb=>ja.at_ hf hb (qw h hs)
theorem zro(fn:Func)(p:List Nat)(id:Nat)(pl:Pl){ls:List (Code×LF)}(hs:kO P gl hk ls)(n:Nat:=1500)
  (ha:(al.all fun f=>zjB T f)=true:=by rfl) (hc:qk.at_ id=zeE fn p:=by rfl) (hr:(zeE fn p).isSome=true:=by rfl) (h:zz P pl .skip=some ls:=by kernel_rfl):
  zgj P gl hk (zo3 fn p) (znW P gl (zdf T) fn p id pl n):=by
 unfold zeE at hc hr
 unfold zo3 znW
 cases hb:fn.body with
 |none=>rw[hb] at hr;cases hr
 |some c=>
  rw[hb] at hc hr
  simp only at hc hr |-
  generalize ziO c p=d at *
  cases d<;>first|(cases hr;done)|skip
  exact zrp hh hT ha hs hc h
end
end Go.Sx
set_option linter.unusedVariables false
set_option linter.unusedSimpArgs false
namespace Go.Mx
open Go Go.Gx
def loI:Int:=-9223372036854775808
def hiI:Int:=9223372036854775807
def zj5:List AV->zb->Option CR:=fun args h=>match args with
 | [.int .i64 s,.int .i64 c,.int .u32 k]=>if(loI<=s/\s<=hiI)/\(loI<=c/\c<=hiI) then
   if 1<=s/\s<=16/\0<=c/\c<=4096 then some (.ret (.ptr h.length 0 0 5) (h++[Blk.gone])) else some (.ret .zat h) else none
 |_=>none
def zkl:Option CR->Bool
 |some (.ret (.ptr l off ver lim) h')=>Nat.beq off 0&&(Nat.beq ver 0&&(Nat.beq lim 5&&match h'[l]? with|some b=>b.own|none=>false))
 |_=>false
def zdR:Option CR->Bool
 |some (.ret .zat _)=>true
 |_=>false
def zfL(run:List AV->Option CR)(k:Int):Bool:=
 zdR (run [.iv loI 0,.iv loI hiI,.int .u32 k])&&(zdR (run [.iv 17 hiI,.iv loI hiI,.int .u32 k])&&(List.range 16).all fun i=>
  zdR (run [.int .i64 ((i+1:Nat):Int),.iv loI (-1),.int .u32 k])&&(zdR (run [.int .i64 ((i+1:Nat):Int),.iv 4097 hiI,.int .u32 k])&&zkl (run [.int .i64 ((i+1:Nat):Int),.iv 0 4096,.int .u32 k])))
section
variable {P:Program} {hgl:zb} {Gg:Gh} {B:Nat} {W0 w:World}
theorem xq(hmo:P.follows .mixedOrders=true)(hng:zgi P){hk:z7}(hh:HOK P hgl Gg hk)(hL:Laid P hgl Gg B W0){n f:Nat}{args args0:List AV}{h:zb}(ha:∀ (G:Gh) us,VL G args us->VL Gg args0 us)
  (hc:zdR (wO P (ql P hk n) f args0 hgl)=true):za9 P B W0 f args h (.ret .zat h):=by
 intro G us w hx hr hg
 left
 have hL':Laid P hgl Gg w.heap.size w:=hL.at hg.low hr.base hr.base (Nat.le_refl _)
 have hg':zau P w.heap.size w Gg w:=⟨hL.g,fun _ _=>rfl⟩
 unfold zdR at hc
 split at hc
 ·rename_i h' hr'
  obtain⟨h1,h2⟩:=wu hng (qE hmo hng (hh _ _ hL') n).1 (qE hmo hng (hh _ _ hL') n).2.2 hr' (ha G us hx) hL'.hr hg'
  refine⟨h1.mono fun e w' hcr=>?_,h2⟩
  obtain⟨G',hS,u,hv,rfl⟩:=hcr
  refine⟨G,Step.grow hr hS.fr.size (fun b hb=>hS.fr.low b hb fun loc v r hat hB e=>?_) hS.fr.os hS.fr.tape hS.fr.output,u,V.zpg rfl hv,rfl⟩
  have:=hL'.low _ _ _ hat;omega
 ·cases hc
theorem zh4(hmo:P.follows .mixedOrders=true)(hng:zgi P){hk:z7}(hh:HOK P hgl Gg hk)(hL:Laid P hgl Gg B W0){n f:Nat}{args args0:List AV}{h:zb}(ha:∀ (G:Gh) us,VL G args us->VL Gg args0 us)
  (hc:zkl (wO P (ql P hk n) f args0 hgl)=true):za9 P B W0 f args h (.ret (.ptr h.length 0 0 5) (h++[Blk.gone])):=by
 intro G us w hx hr hg
 left
 have hL':Laid P hgl Gg w.heap.size w:=hL.at hg.low hr.base hr.base (Nat.le_refl _)
 have hg':zau P w.heap.size w Gg w:=⟨hL.g,fun _ _=>rfl⟩
 unfold zkl at hc
 split at hc
 ·rename_i l off ver lim h' hr'
  simp only[Bool.and_eq_true] at hc
  obtain⟨c1,c2,c3,c4⟩:=hc
  cases Nat.eq_of_beq_eq_true c1;cases Nat.eq_of_beq_eq_true c2;cases Nat.eq_of_beq_eq_true c3
  obtain⟨h1,h2⟩:=wu hng (qE hmo hng (hh _ _ hL') n).1 (qE hmo hng (hh _ _ hL') n).2.2 hr' (ha G us hx) hL'.hr hg'
  refine⟨h1.mono fun e w' hcr=>?_,h2⟩
  obtain⟨G',hS,u,hv,rfl⟩:=hcr
  have hlow:∀ b,b<w.heap.size->w'.heap[b]?=w.heap[b]?:=fun b hb=>hS.fr.low b hb fun loc v r hat hB e=>by
   have:=hL'.low _ _ _ hat;omega
  cases hv with
  |ptr hat h3 h4=>
   rename_i r
   have hb:w.heap.size<=r.b:=by
    obtain⟨b0,vs,q1,q2,q3,q4⟩:=hS.hr.get hat
    rw[q1] at c4
    exact(hS.hr.own _ _ _ _ hat q1).1 c4
   have hb2:=hS.hr.lt _ _ _ hat
   have hS2:=Step.push (blk:=.gone) (vs:=[r]) hr rfl hS.fr.size hlow hS.fr.os hS.fr.tape hS.fr.output (fun v r' hv=>by
    cases v with
    |zero=>cases hv;exact⟨hb,hb2⟩
    |succ v=>simp at hv) trivial
   refine⟨_,hS2,_,?_,rfl⟩
   refine .ptr (r:=r) ?_ h3 h4
   unfold Gh.at
   rw[List.getElem?_append_right (by rw[hr.len];exact Nat.le_refl _),hr.len,Nat.sub_self]
   rfl
 ·cases hc
theorem znK(hmo:P.follows .mixedOrders=true)(hng:zgi P){hk:z7}(hh:HOK P hgl Gg hk)(hL:Laid P hgl Gg B W0){n f:Nat}(hn:∀ k,zfL (fun a=>wO P (ql P hk n) f a hgl) k=true){args:List AV}{h:zb}{r:CR}(hr:zj5 args h=some r):za9 P B W0 f args h r:=by
 unfold zj5 at hr
 split at hr
 ·rename_i s c k
  have hk0:=hn k
  simp only[zfL,Bool.and_eq_true,List.all_eq_true,List.mem_range] at hk0
  obtain⟨k1,k2,k3⟩:=hk0
  have key:∀ (x y:AV),(∀ (G:Gh) u,V G (.int .i64 s) u->V Gg x u)->(∀ (G:Gh) u,V G (.int .i64 c) u->V Gg y u)->∀ (G:Gh) us,VL G [.int .i64 s,.int .i64 c,.int .u32 k] us->VL Gg [x,y,.int .u32 k] us:=by
   intro x y hx hy G us h
   cases h with
   |cons h1 h2=>cases h2 with
    |cons h3 h4=>cases h4 with
     |cons h5 h6=>exact .cons (hx G _ h1) (.cons (hy G _ h3) (.cons (V.za2 rfl h5) (by cases h6;exact .nil)))
  have iv:∀ {z lo hi:Int},lo<=z->z<=hi->∀ (G:Gh) u,V G (.int .i64 z) u->V Gg (.iv lo hi) u:=fun h1 h2 G u h=>by
   have:=qV h
   subst this
   exact .iv h1 h2
  split at hr
  ·rename_i hc
   obtain⟨⟨c1,c2⟩,c3,c4⟩:=hc
   by_cases hs1:s<1
   ·rw[if_neg (by omega)] at hr
    cases hr
    exact xq hmo hng hh hL (key _ _ (iv c1 (by omega)) (iv c3 c4)) k1
   by_cases hs2:16<s
   ·rw[if_neg (by omega)] at hr
    cases hr
    exact xq hmo hng hh hL (key _ _ (iv (by omega) c2) (iv c3 c4)) k2
   obtain⟨i,hi,rfl⟩:∃ i:Nat,i<16/\s=((i+1:Nat):Int):=⟨(s-1).toNat,by omega,by omega⟩
   obtain⟨d1,d2,d3⟩:=k3 i hi
   have hS:∀ (G:Gh) u,V G (.int .i64 ((i+1:Nat):Int)) u->V Gg (.int .i64 ((i+1:Nat):Int)) u:=fun G u h=>V.za2 rfl h
   by_cases hc1:c<0
   ·rw[if_neg (by omega)] at hr
    cases hr
    exact xq hmo hng hh hL (key _ _ hS (iv c3 (by omega))) d1
   by_cases hc2:4096<c
   ·rw[if_neg (by omega)] at hr
    cases hr
    exact xq hmo hng hh hL (key _ _ hS (iv (by omega) c4)) d2
   rw[if_pos ⟨by omega,by omega,by omega,by omega⟩] at hr
   cases hr
   exact zh4 hmo hng hh hL (key _ _ hS (iv (by omega) (by omega))) d3
  ·cases hr
 ·cases hr
end
end Go.Mx
namespace Go.Sx
open Go Go.Gx Go.Mx
def zqk:CF:=fun R args h κ=>match args with
 | [.a (.int .i64 s),.a (.int .i64 c),.a (.int .u32 k)]=>cond ((decide (loI<=s)&&decide (s<=hiI))&&(decide (loI<=c)&&decide (c<=hiI)))
   (cond (decide (1<=s)&&(decide (s<=16)&&(decide (0<=c)&&decide (c<=4096)))) (κ (.ret (.ptr h.length 0 5) (h++[.gone]))) (κ (.ret (.a .zat) h))) none
 |_=>none
section
variable [qk] {P:Program} {gl:GL} {hk:z7} {f:FuncId}
theorem ziv(h:hk f=some zj5):zdg P gl hk f zqk:=by
 intro R args κ r X margs hc hargs hr hg
 unfold zqk at hc
 split at hc
 ·rename_i s c k
  obtain⟨x,t,rfl,q1,y,t2,rfl,q2,z,t3,rfl,q3,q4⟩:=hargs
  cases(show t3=[] from q4)
  cases(show x=_ from q1);cases(show y=_ from q2);cases(show z=_ from q3)
  cases hb:((decide (loI<=s)&&decide (s<=hiI))&&(decide (loI<=c)&&decide (c<=hiI))) with
  |false=>rw[hb] at hc;cases hc
  |true=>
   rw[hb,cond_true] at hc
   simp only[Bool.and_eq_true,decide_eq_true_eq] at hb
   cases hb2:(decide (1<=s)&&(decide (s<=16)&&(decide (0<=c)&&decide (c<=4096)))) with
   |true=>
    rw[hb2,cond_true] at hc
    simp only[Bool.and_eq_true,decide_eq_true_eq] at hb2
    refine⟨_,_,.ret (.ptr X.h.length 0 0 5) (X.h++[Blk.gone]),hc,Stp.push hr (b:=.gone) (blk:=.gone) (by simp [SB.md]) (fun _=>trivial),⟨rfl,rfl,X.h.length,⟨0,?_⟩,rfl⟩,Ev.all fun n=>?_⟩
    ·show(X.σ++[_])[X.sh.length]?=_
     rw[<- hr.len,List.getElem?_append_right (Nat.le_refl _),Nat.sub_self];rfl
    ·simp only[qv,h,zj5]
     rw[if_pos hb,if_pos hb2]
   |false=>
    rw[hb2,cond_false] at hc
    refine⟨_,X,.ret .zat X.h,hc,.refl hr,⟨rfl,rfl,rfl⟩,Ev.all fun n=>?_⟩
    simp only[qv,h,zj5]
    rw[if_pos hb,if_neg (fun hn=>by
     simp only[Bool.and_eq_false_iff,decide_eq_false_iff_not] at hb2
     omega)]
 ·cases hc
end
end Go.Sx
namespace Go.Sx
open Go Go.Gx Go.Mx
variable [qk]
section
variable (P:Program) (gl:GL) (ct:CT) {R:Type}
end
section
variable {P:Program} {gl:GL} {ct:CT} {hk:z7}
end
end Go.Sx
namespace Go.Proofs.Model
open Go Go.Gx Go.Mx Go.Sx
def zlg:List UInt8:=[0,1,2,2,3,3,3,3,4,4,4,4,4,4,4,4,5,5,5,5,5,5,5,5,5,5,5,5,5,5,5,5,6,6,6,6,6,6,6,6,6,6,6,6,6,6,6,6,6,6,6,6,6,6,6,6,6,6,6,6,6,6,6,6,7,7,7,7,7,7,7,7,7,7,7,7,7,7,7,7,7,7,7,7,7,7,7,7,7,7,7,7,7,7,7,7,7,7,7,7,7,7,7,7,7,7,7,7,7,7,7,7,7,7,7,7,7,7,7,7,7,7,7,7,7,7,7,7,8,8,8,8,8,8,8,8,8,8,8,8,8,8,8,8,8,8,8,8,8,8,8,8,8,8,8,8,8,8,8,8,8,8,8,8,8,8,8,8,8,8,8,8,8,8,8,8,8,8,8,8,8,8,8,8,8,8,8,8,8,8,8,8,8,8,8,8,8,8,8,8,8,8,8,8,8,8,8,8,8,8,8,8,8,8,8,8,8,8,8,8,8,8,8,8,8,8,8,8,8,8,8,8,8,8,8,8,8,8,8,8,8,8,8,8,8,8,8,8,8,8,8,8,8,8,8,8]
def kP:List UInt8:=[48,48,48,49,48,50,48,51,48,52,48,53,48,54,48,55,48,56,48,57,49,48,49,49,49,50,49,51,49,52,49,53,49,54,49,55,49,56,49,57,50,48,50,49,50,50,50,51,50,52,50,53,50,54,50,55,50,56,50,57,51,48,51,49,51,50,51,51,51,52,51,53,51,54,51,55,51,56,51,57,52,48,52,49,52,50,52,51,52,52,52,53,52,54,52,55,52,56,52,57,53,48,53,49,53,50,53,51,53,52,53,53,53,54,53,55,53,56,53,57,54,48,54,49,54,50,54,51,54,52,54,53,54,54,54,55,54,56,54,57,55,48,55,49,55,50,55,51,55,52,55,53,55,54,55,55,55,56,55,57,56,48,56,49,56,50,56,51,56,52,56,53,56,54,56,55,56,56,56,57,57,48,57,49,57,50,57,51,57,52,57,53,57,54,57,55,57,56,57,57]
def qZ(N:Nat)(p0:Int):Option ((List UInt8)×Unit):=
 (cond (decide (p0<10)) (cond (jD p0 (IntKind.wrap .i64 (p0+1)) 36) (some ((slice [48,49,50,51,52,53,54,55,56,57,97,98,99,100,101,102,103,104,105,106,107,108,109,110,111,112,113,114,115,116,117,118,119,120,121,122] (Int.toNat p0) (Int.toNat (IntKind.wrap .i64 (p0+1)))),())) none) (cond (jD (IntKind.wrap .i64 (p0*2)) (IntKind.wrap .i64 ((IntKind.wrap .i64 (p0*2))+2)) 200) (some ((slice [48,48,48,49,48,50,48,51,48,52,48,53,48,54,48,55,48,56,48,57,49,48,49,49,49,50,49,51,49,52,49,53,49,54,49,55,49,56,49,57,50,48,50,49,50,50,50,51,50,52,50,53,50,54,50,55,50,56,50,57,51,48,51,49,51,50,51,51,51,52,51,53,51,54,51,55,51,56,51,57,52,48,52,49,52,50,52,51,52,52,52,53,52,54,52,55,52,56,52,57,53,48,53,49,53,50,53,51,53,52,53,53,53,54,53,55,53,56,53,57,54,48,54,49,54,50,54,51,54,52,54,53,54,54,54,55,54,56,54,57,55,48,55,49,55,50,55,51,55,52,55,53,55,54,55,55,55,56,55,57,56,48,56,49,56,50,56,51,56,52,56,53,56,54,56,55,56,56,56,57,57,48,57,49,57,50,57,51,57,52,57,53,57,54,57,55,57,56,57,57] (Int.toNat (IntKind.wrap .i64 (p0*2))) (Int.toNat (IntKind.wrap .i64 ((IntKind.wrap .i64 (p0*2))+2)))),())) none))
def qy(N:Nat)(p0:Int):Option (Int×Unit):=
 (cond (decide (4294967296<=p0)) (cond (decide (65536<=(Int.fdiv p0 (2 ^ (min (Int.toNat 32) (IntKind.bits .u64)))))) (cond (decide (256<=(Int.fdiv (Int.fdiv p0 (2 ^ (min (Int.toNat 32) (IntKind.bits .u64)))) (2 ^ (min (Int.toNat 16) (IntKind.bits .u64)))))) (cond (inb ((UInt8.toNat (za4 (Int.fdiv (Int.fdiv (Int.fdiv p0 (2 ^ (min (Int.toNat 32) (IntKind.bits .u64)))) (2 ^ (min (Int.toNat 16) (IntKind.bits .u64)))) (2 ^ (min (Int.toNat 8) (IntKind.bits .u64))))):Nat):Int) 256) (some ((IntKind.wrap .i64 (56+(IntKind.wrap .i64 ((UInt8.toNat (nth .u8 zlg (Int.toNat ((UInt8.toNat (za4 (Int.fdiv (Int.fdiv (Int.fdiv p0 (2 ^ (min (Int.toNat 32) (IntKind.bits .u64)))) (2 ^ (min (Int.toNat 16) (IntKind.bits .u64)))) (2 ^ (min (Int.toNat 8) (IntKind.bits .u64))))):Nat):Int))):Nat):Int)))),())) none) (cond (inb ((UInt8.toNat (za4 (Int.fdiv (Int.fdiv p0 (2 ^ (min (Int.toNat 32) (IntKind.bits .u64)))) (2 ^ (min (Int.toNat 16) (IntKind.bits .u64))))):Nat):Int) 256) (some ((IntKind.wrap .i64 (48+(IntKind.wrap .i64 ((UInt8.toNat (nth .u8 zlg (Int.toNat ((UInt8.toNat (za4 (Int.fdiv (Int.fdiv p0 (2 ^ (min (Int.toNat 32) (IntKind.bits .u64)))) (2 ^ (min (Int.toNat 16) (IntKind.bits .u64))))):Nat):Int))):Nat):Int)))),())) none)) (cond (decide (256<=(Int.fdiv p0 (2 ^ (min (Int.toNat 32) (IntKind.bits .u64)))))) (cond (inb ((UInt8.toNat (za4 (Int.fdiv (Int.fdiv p0 (2 ^ (min (Int.toNat 32) (IntKind.bits .u64)))) (2 ^ (min (Int.toNat 8) (IntKind.bits .u64))))):Nat):Int) 256) (some ((IntKind.wrap .i64 (40+(IntKind.wrap .i64 ((UInt8.toNat (nth .u8 zlg (Int.toNat ((UInt8.toNat (za4 (Int.fdiv (Int.fdiv p0 (2 ^ (min (Int.toNat 32) (IntKind.bits .u64)))) (2 ^ (min (Int.toNat 8) (IntKind.bits .u64))))):Nat):Int))):Nat):Int)))),())) none) (cond (inb ((UInt8.toNat (za4 (Int.fdiv p0 (2 ^ (min (Int.toNat 32) (IntKind.bits .u64))))):Nat):Int) 256) (some ((IntKind.wrap .i64 (32+(IntKind.wrap .i64 ((UInt8.toNat (nth .u8 zlg (Int.toNat ((UInt8.toNat (za4 (Int.fdiv p0 (2 ^ (min (Int.toNat 32) (IntKind.bits .u64))))):Nat):Int))):Nat):Int)))),())) none))) (cond (decide (65536<=p0)) (cond (decide (256<=(Int.fdiv p0 (2 ^ (min (Int.toNat 16) (IntKind.bits .u64)))))) (cond (inb ((UInt8.toNat (za4 (Int.fdiv (Int.fdiv p0 (2 ^ (min (Int.toNat 16) (IntKind.bits .u64)))) (2 ^ (min (Int.toNat 8) (IntKind.bits .u64))))):Nat):Int) 256) (some ((IntKind.wrap .i64 (24+(IntKind.wrap .i64 ((UInt8.toNat (nth .u8 zlg (Int.toNat ((UInt8.toNat (za4 (Int.fdiv (Int.fdiv p0 (2 ^ (min (Int.toNat 16) (IntKind.bits .u64)))) (2 ^ (min (Int.toNat 8) (IntKind.bits .u64))))):Nat):Int))):Nat):Int)))),())) none) (cond (inb ((UInt8.toNat (za4 (Int.fdiv p0 (2 ^ (min (Int.toNat 16) (IntKind.bits .u64))))):Nat):Int) 256) (some ((IntKind.wrap .i64 (16+(IntKind.wrap .i64 ((UInt8.toNat (nth .u8 zlg (Int.toNat ((UInt8.toNat (za4 (Int.fdiv p0 (2 ^ (min (Int.toNat 16) (IntKind.bits .u64))))):Nat):Int))):Nat):Int)))),())) none)) (cond (decide (256<=p0)) (cond (inb ((UInt8.toNat (za4 (Int.fdiv p0 (2 ^ (min (Int.toNat 8) (IntKind.bits .u64))))):Nat):Int) 256) (some ((IntKind.wrap .i64 (8+(IntKind.wrap .i64 ((UInt8.toNat (nth .u8 zlg (Int.toNat ((UInt8.toNat (za4 (Int.fdiv p0 (2 ^ (min (Int.toNat 8) (IntKind.bits .u64))))):Nat):Int))):Nat):Int)))),())) none) (cond (inb ((UInt8.toNat (za4 p0):Nat):Int) 256) (some ((IntKind.wrap .i64 (0+(IntKind.wrap .i64 ((UInt8.toNat (nth .u8 zlg (Int.toNat ((UInt8.toNat (za4 p0):Nat):Int))):Nat):Int)))),())) none))))
def qQ(N:Nat)(p0:Int):Option (Int×Unit):=
 (some ((Int.fdiv (IntKind.wrap .i64 (p0*78913)) (2 ^ (min (Int.toNat 18) (IntKind.bits .i64)))),()))
def qP(N:Nat)(p0:Bool):Option (Int×Unit):=
 (cond p0 (some (1,())) (some (0,())))
def zf(N:Nat)(p0:Int):Option (Int×Unit):=
 (Option.bind (qy N p0) fun y1=>(Option.bind (qQ N y1.1) fun y2=>(cond ((inb y2.1 20)&&(inb y2.1 20)) (Option.bind (qP N (decide ((nth (.int .u64) ([1,10,100,1000,10000,100000,1000000,10000000,100000000,1000000000,10000000000,100000000000,1000000000000,10000000000000,100000000000000,1000000000000000,10000000000000000,100000000000000000,1000000000000000000,10000000000000000000]:List Int) (Int.toNat y2.1))<=p0))) fun y3=>(some ((IntKind.wrap .i64 (y2.1+y3.1)),()))) none)))
def zg(N:Nat){R:Type}(x3:Nat)(x4:Nat)(x5:Int)(x6:Int)(x7:List UInt8)(rec_:(Nat)->(Nat)->(Int)->(Int)->(List UInt8)->Option R)(o0:(Nat)->(Nat)->(Int)->(Int)->(List UInt8)->Option R):Option R:=
 (cond (decide (8<=x6)) (cond (inb (IntKind.wrap .u32 ((IntKind.wrap .u32 ((Int.tmod (Int.tmod (IntKind.wrap .u32 (Int.tmod x5 100000000)) 10000) 100)*2))+1)) 200) (cond (inb (IntKind.wrap .u32 ((Int.tmod (Int.tmod (IntKind.wrap .u32 (Int.tmod x5 100000000)) 10000) 100)*2)) 200) (cond (inb (IntKind.wrap .i64 (x6-1)) x4) (cond (inb (IntKind.wrap .i64 (x6-2)) x4) (cond (inb (IntKind.wrap .u32 ((IntKind.wrap .u32 ((IntKind.wrap .u32 (Int.tdiv (Int.tmod (IntKind.wrap .u32 (Int.tmod x5 100000000)) 10000) 100))*2))+1)) 200) (cond (inb (IntKind.wrap .u32 ((IntKind.wrap .u32 (Int.tdiv (Int.tmod (IntKind.wrap .u32 (Int.tmod x5 100000000)) 10000) 100))*2)) 200) (cond (inb (IntKind.wrap .i64 (x6-3)) x4) (cond (inb (IntKind.wrap .i64 (x6-4)) x4) (cond (inb (IntKind.wrap .u32 ((IntKind.wrap .u32 ((Int.tmod (IntKind.wrap .u32 (Int.tdiv (IntKind.wrap .u32 (Int.tmod x5 100000000)) 10000)) 100)*2))+1)) 200) (cond (inb (IntKind.wrap .u32 ((Int.tmod (IntKind.wrap .u32 (Int.tdiv (IntKind.wrap .u32 (Int.tmod x5 100000000)) 10000)) 100)*2)) 200) (cond (inb (IntKind.wrap .i64 (x6-5)) x4) (cond (inb (IntKind.wrap .i64 (x6-6)) x4) (cond (inb (IntKind.wrap .u32 ((IntKind.wrap .u32 ((IntKind.wrap .u32 (Int.tdiv (IntKind.wrap .u32 (Int.tdiv (IntKind.wrap .u32 (Int.tmod x5 100000000)) 10000)) 100))*2))+1)) 200) (cond (inb (IntKind.wrap .u32 ((IntKind.wrap .u32 (Int.tdiv (IntKind.wrap .u32 (Int.tdiv (IntKind.wrap .u32 (Int.tmod x5 100000000)) 10000)) 100))*2)) 200) (cond (inb (IntKind.wrap .i64 (x6-7)) x4) (cond (inb (IntKind.wrap .i64 (x6-8)) x4) (rec_ x3 x4 (IntKind.wrap .u64 (Int.tdiv x5 100000000)) (IntKind.wrap .i64 (x6-8)) (List.set (List.set (List.set (List.set (List.set (List.set (List.set (List.set x7 (x3+(Int.toNat (IntKind.wrap .i64 (x6-1)))) (nth .u8 kP (Int.toNat (IntKind.wrap .u32 ((IntKind.wrap .u32 ((Int.tmod (Int.tmod (IntKind.wrap .u32 (Int.tmod x5 100000000)) 10000) 100)*2))+1))))) (x3+(Int.toNat (IntKind.wrap .i64 (x6-2)))) (nth .u8 kP (Int.toNat (IntKind.wrap .u32 ((Int.tmod (Int.tmod (IntKind.wrap .u32 (Int.tmod x5 100000000)) 10000) 100)*2))))) (x3+(Int.toNat (IntKind.wrap .i64 (x6-3)))) (nth .u8 kP (Int.toNat (IntKind.wrap .u32 ((IntKind.wrap .u32 ((IntKind.wrap .u32 (Int.tdiv (Int.tmod (IntKind.wrap .u32 (Int.tmod x5 100000000)) 10000) 100))*2))+1))))) (x3+(Int.toNat (IntKind.wrap .i64 (x6-4)))) (nth .u8 kP (Int.toNat (IntKind.wrap .u32 ((IntKind.wrap .u32 (Int.tdiv (Int.tmod (IntKind.wrap .u32 (Int.tmod x5 100000000)) 10000) 100))*2))))) (x3+(Int.toNat (IntKind.wrap .i64 (x6-5)))) (nth .u8 kP (Int.toNat (IntKind.wrap .u32 ((IntKind.wrap .u32 ((Int.tmod (IntKind.wrap .u32 (Int.tdiv (IntKind.wrap .u32 (Int.tmod x5 100000000)) 10000)) 100)*2))+1))))) (x3+(Int.toNat (IntKind.wrap .i64 (x6-6)))) (nth .u8 kP (Int.toNat (IntKind.wrap .u32 ((Int.tmod (IntKind.wrap .u32 (Int.tdiv (IntKind.wrap .u32 (Int.tmod x5 100000000)) 10000)) 100)*2))))) (x3+(Int.toNat (IntKind.wrap .i64 (x6-7)))) (nth .u8 kP (Int.toNat (IntKind.wrap .u32 ((IntKind.wrap .u32 ((IntKind.wrap .u32 (Int.tdiv (IntKind.wrap .u32 (Int.tdiv (IntKind.wrap .u32 (Int.tmod x5 100000000)) 10000)) 100))*2))+1))))) (x3+(Int.toNat (IntKind.wrap .i64 (x6-8)))) (nth .u8 kP (Int.toNat (IntKind.wrap .u32 ((IntKind.wrap .u32 (Int.tdiv (IntKind.wrap .u32 (Int.tdiv (IntKind.wrap .u32 (Int.tmod x5 100000000)) 10000)) 100))*2)))))) none) none) none) none) none) none) none) none) none) none) none) none) none) none) none) none) (o0 x3 x4 x5 x6 x7))
def za(N:Nat):Nat->(Nat)->(Nat)->(Int)->(Int)->(List UInt8)->Option ((Nat)×(Nat)×(Int)×(Int)×(List UInt8))
 |0,_,_,_,_,_=>none
 |m+1,x3,x4,x5,x6,x7=>zg N x3 x4 x5 x6 x7 (za N m) (fun v0 v1 v2 v3 v4=>some (v0,v1,v2,v3,v4))
def ze(N:Nat)(p0:Int):Option ((List UInt8)×Unit):=
 (cond (decide ((IntKind.wrap .u64 p0)<100)) (Option.bind (qZ N (IntKind.wrap .i64 (IntKind.wrap .u64 p0))) fun y1=>(some (y1.1,()))) (Option.bind (zf N (IntKind.wrap .u64 p0)) fun y2=>(cond (jD 0 y2.1 24) (Option.bind (za N N 0 ((Int.toNat y2.1)-0) (IntKind.wrap .u64 p0) ((((Int.toNat y2.1)-0):Nat):Int) [0,0,0,0,0,0,0,0,0,0,0,0,0,0,0,0,0,0,0,0,0,0,0,0]) fun o9=>(cond (decide (4<=o9.2.2.2.1)) (cond (inb (IntKind.wrap .u32 ((IntKind.wrap .u32 ((Int.tmod (Int.tmod (IntKind.wrap .u32 o9.2.2.1) 10000) 100)*2))+1)) 200) (cond (inb (IntKind.wrap .u32 ((Int.tmod (Int.tmod (IntKind.wrap .u32 o9.2.2.1) 10000) 100)*2)) 200) (cond (inb (IntKind.wrap .i64 (o9.2.2.2.1-1)) o9.2.1) (cond (inb (IntKind.wrap .i64 (o9.2.2.2.1-2)) o9.2.1) (cond (inb (IntKind.wrap .u32 ((IntKind.wrap .u32 ((IntKind.wrap .u32 (Int.tdiv (Int.tmod (IntKind.wrap .u32 o9.2.2.1) 10000) 100))*2))+1)) 200) (cond (inb (IntKind.wrap .u32 ((IntKind.wrap .u32 (Int.tdiv (Int.tmod (IntKind.wrap .u32 o9.2.2.1) 10000) 100))*2)) 200) (cond (inb (IntKind.wrap .i64 (o9.2.2.2.1-3)) o9.2.1) (cond (inb (IntKind.wrap .i64 (o9.2.2.2.1-4)) o9.2.1) (cond (decide (2<=(IntKind.wrap .i64 (o9.2.2.2.1-4)))) (cond (inb (IntKind.wrap .u32 ((IntKind.wrap .u32 ((Int.tmod (IntKind.wrap .u32 (Int.tdiv (IntKind.wrap .u32 o9.2.2.1) 10000)) 100)*2))+1)) 200) (cond (inb (IntKind.wrap .u32 ((Int.tmod (IntKind.wrap .u32 (Int.tdiv (IntKind.wrap .u32 o9.2.2.1) 10000)) 100)*2)) 200) (cond (inb (IntKind.wrap .i64 ((IntKind.wrap .i64 (o9.2.2.2.1-4))-1)) o9.2.1) (cond (inb (IntKind.wrap .i64 ((IntKind.wrap .i64 (o9.2.2.2.1-4))-2)) o9.2.1) (cond (decide (0<(IntKind.wrap .i64 ((IntKind.wrap .i64 (o9.2.2.2.1-4))-2)))) (cond (inb 0 o9.2.1) (cond (jD 0 y2.1 24) (some ((slice (List.set (List.set (List.set (List.set (List.set (List.set (List.set o9.2.2.2.2 (o9.1+(Int.toNat (IntKind.wrap .i64 (o9.2.2.2.1-1)))) (nth .u8 kP (Int.toNat (IntKind.wrap .u32 ((IntKind.wrap .u32 ((Int.tmod (Int.tmod (IntKind.wrap .u32 o9.2.2.1) 10000) 100)*2))+1))))) (o9.1+(Int.toNat (IntKind.wrap .i64 (o9.2.2.2.1-2)))) (nth .u8 kP (Int.toNat (IntKind.wrap .u32 ((Int.tmod (Int.tmod (IntKind.wrap .u32 o9.2.2.1) 10000) 100)*2))))) (o9.1+(Int.toNat (IntKind.wrap .i64 (o9.2.2.2.1-3)))) (nth .u8 kP (Int.toNat (IntKind.wrap .u32 ((IntKind.wrap .u32 ((IntKind.wrap .u32 (Int.tdiv (Int.tmod (IntKind.wrap .u32 o9.2.2.1) 10000) 100))*2))+1))))) (o9.1+(Int.toNat (IntKind.wrap .i64 (o9.2.2.2.1-4)))) (nth .u8 kP (Int.toNat (IntKind.wrap .u32 ((IntKind.wrap .u32 (Int.tdiv (Int.tmod (IntKind.wrap .u32 o9.2.2.1) 10000) 100))*2))))) (o9.1+(Int.toNat (IntKind.wrap .i64 ((IntKind.wrap .i64 (o9.2.2.2.1-4))-1)))) (nth .u8 kP (Int.toNat (IntKind.wrap .u32 ((IntKind.wrap .u32 ((Int.tmod (IntKind.wrap .u32 (Int.tdiv (IntKind.wrap .u32 o9.2.2.1) 10000)) 100)*2))+1))))) (o9.1+(Int.toNat (IntKind.wrap .i64 ((IntKind.wrap .i64 (o9.2.2.2.1-4))-2)))) (nth .u8 kP (Int.toNat (IntKind.wrap .u32 ((Int.tmod (IntKind.wrap .u32 (Int.tdiv (IntKind.wrap .u32 o9.2.2.1) 10000)) 100)*2))))) (o9.1+0) (za4 (IntKind.wrap .u32 (48+(IntKind.wrap .u32 (Int.tdiv (IntKind.wrap .u32 (Int.tdiv (IntKind.wrap .u32 o9.2.2.1) 10000)) 100)))))) 0 (0+((Int.toNat y2.1)-0))),())) none) none) (cond (jD 0 y2.1 24) (some ((slice (List.set (List.set (List.set (List.set (List.set (List.set o9.2.2.2.2 (o9.1+(Int.toNat (IntKind.wrap .i64 (o9.2.2.2.1-1)))) (nth .u8 kP (Int.toNat (IntKind.wrap .u32 ((IntKind.wrap .u32 ((Int.tmod (Int.tmod (IntKind.wrap .u32 o9.2.2.1) 10000) 100)*2))+1))))) (o9.1+(Int.toNat (IntKind.wrap .i64 (o9.2.2.2.1-2)))) (nth .u8 kP (Int.toNat (IntKind.wrap .u32 ((Int.tmod (Int.tmod (IntKind.wrap .u32 o9.2.2.1) 10000) 100)*2))))) (o9.1+(Int.toNat (IntKind.wrap .i64 (o9.2.2.2.1-3)))) (nth .u8 kP (Int.toNat (IntKind.wrap .u32 ((IntKind.wrap .u32 ((IntKind.wrap .u32 (Int.tdiv (Int.tmod (IntKind.wrap .u32 o9.2.2.1) 10000) 100))*2))+1))))) (o9.1+(Int.toNat (IntKind.wrap .i64 (o9.2.2.2.1-4)))) (nth .u8 kP (Int.toNat (IntKind.wrap .u32 ((IntKind.wrap .u32 (Int.tdiv (Int.tmod (IntKind.wrap .u32 o9.2.2.1) 10000) 100))*2))))) (o9.1+(Int.toNat (IntKind.wrap .i64 ((IntKind.wrap .i64 (o9.2.2.2.1-4))-1)))) (nth .u8 kP (Int.toNat (IntKind.wrap .u32 ((IntKind.wrap .u32 ((Int.tmod (IntKind.wrap .u32 (Int.tdiv (IntKind.wrap .u32 o9.2.2.1) 10000)) 100)*2))+1))))) (o9.1+(Int.toNat (IntKind.wrap .i64 ((IntKind.wrap .i64 (o9.2.2.2.1-4))-2)))) (nth .u8 kP (Int.toNat (IntKind.wrap .u32 ((Int.tmod (IntKind.wrap .u32 (Int.tdiv (IntKind.wrap .u32 o9.2.2.1) 10000)) 100)*2))))) 0 (0+((Int.toNat y2.1)-0))),())) none)) none) none) none) none) (cond (decide (0<(IntKind.wrap .i64 (o9.2.2.2.1-4)))) (cond (inb 0 o9.2.1) (cond (jD 0 y2.1 24) (some ((slice (List.set (List.set (List.set (List.set (List.set o9.2.2.2.2 (o9.1+(Int.toNat (IntKind.wrap .i64 (o9.2.2.2.1-1)))) (nth .u8 kP (Int.toNat (IntKind.wrap .u32 ((IntKind.wrap .u32 ((Int.tmod (Int.tmod (IntKind.wrap .u32 o9.2.2.1) 10000) 100)*2))+1))))) (o9.1+(Int.toNat (IntKind.wrap .i64 (o9.2.2.2.1-2)))) (nth .u8 kP (Int.toNat (IntKind.wrap .u32 ((Int.tmod (Int.tmod (IntKind.wrap .u32 o9.2.2.1) 10000) 100)*2))))) (o9.1+(Int.toNat (IntKind.wrap .i64 (o9.2.2.2.1-3)))) (nth .u8 kP (Int.toNat (IntKind.wrap .u32 ((IntKind.wrap .u32 ((IntKind.wrap .u32 (Int.tdiv (Int.tmod (IntKind.wrap .u32 o9.2.2.1) 10000) 100))*2))+1))))) (o9.1+(Int.toNat (IntKind.wrap .i64 (o9.2.2.2.1-4)))) (nth .u8 kP (Int.toNat (IntKind.wrap .u32 ((IntKind.wrap .u32 (Int.tdiv (Int.tmod (IntKind.wrap .u32 o9.2.2.1) 10000) 100))*2))))) (o9.1+0) (za4 (IntKind.wrap .u32 (48+(IntKind.wrap .u32 (Int.tdiv (IntKind.wrap .u32 o9.2.2.1) 10000)))))) 0 (0+((Int.toNat y2.1)-0))),())) none) none) (cond (jD 0 y2.1 24) (some ((slice (List.set (List.set (List.set (List.set o9.2.2.2.2 (o9.1+(Int.toNat (IntKind.wrap .i64 (o9.2.2.2.1-1)))) (nth .u8 kP (Int.toNat (IntKind.wrap .u32 ((IntKind.wrap .u32 ((Int.tmod (Int.tmod (IntKind.wrap .u32 o9.2.2.1) 10000) 100)*2))+1))))) (o9.1+(Int.toNat (IntKind.wrap .i64 (o9.2.2.2.1-2)))) (nth .u8 kP (Int.toNat (IntKind.wrap .u32 ((Int.tmod (Int.tmod (IntKind.wrap .u32 o9.2.2.1) 10000) 100)*2))))) (o9.1+(Int.toNat (IntKind.wrap .i64 (o9.2.2.2.1-3)))) (nth .u8 kP (Int.toNat (IntKind.wrap .u32 ((IntKind.wrap .u32 ((IntKind.wrap .u32 (Int.tdiv (Int.tmod (IntKind.wrap .u32 o9.2.2.1) 10000) 100))*2))+1))))) (o9.1+(Int.toNat (IntKind.wrap .i64 (o9.2.2.2.1-4)))) (nth .u8 kP (Int.toNat (IntKind.wrap .u32 ((IntKind.wrap .u32 (Int.tdiv (Int.tmod (IntKind.wrap .u32 o9.2.2.1) 10000) 100))*2))))) 0 (0+((Int.toNat y2.1)-0))),())) none))) none) none) none) none) none) none) none) none) (cond (decide (2<=o9.2.2.2.1)) (cond (inb (IntKind.wrap .u32 ((IntKind.wrap .u32 ((Int.tmod (IntKind.wrap .u32 o9.2.2.1) 100)*2))+1)) 200) (cond (inb (IntKind.wrap .u32 ((Int.tmod (IntKind.wrap .u32 o9.2.2.1) 100)*2)) 200) (cond (inb (IntKind.wrap .i64 (o9.2.2.2.1-1)) o9.2.1) (cond (inb (IntKind.wrap .i64 (o9.2.2.2.1-2)) o9.2.1) (cond (decide (0<(IntKind.wrap .i64 (o9.2.2.2.1-2)))) (cond (inb 0 o9.2.1) (cond (jD 0 y2.1 24) (some ((slice (List.set (List.set (List.set o9.2.2.2.2 (o9.1+(Int.toNat (IntKind.wrap .i64 (o9.2.2.2.1-1)))) (nth .u8 kP (Int.toNat (IntKind.wrap .u32 ((IntKind.wrap .u32 ((Int.tmod (IntKind.wrap .u32 o9.2.2.1) 100)*2))+1))))) (o9.1+(Int.toNat (IntKind.wrap .i64 (o9.2.2.2.1-2)))) (nth .u8 kP (Int.toNat (IntKind.wrap .u32 ((Int.tmod (IntKind.wrap .u32 o9.2.2.1) 100)*2))))) (o9.1+0) (za4 (IntKind.wrap .u32 (48+(IntKind.wrap .u32 (Int.tdiv (IntKind.wrap .u32 o9.2.2.1) 100)))))) 0 (0+((Int.toNat y2.1)-0))),())) none) none) (cond (jD 0 y2.1 24) (some ((slice (List.set (List.set o9.2.2.2.2 (o9.1+(Int.toNat (IntKind.wrap .i64 (o9.2.2.2.1-1)))) (nth .u8 kP (Int.toNat (IntKind.wrap .u32 ((IntKind.wrap .u32 ((Int.tmod (IntKind.wrap .u32 o9.2.2.1) 100)*2))+1))))) (o9.1+(Int.toNat (IntKind.wrap .i64 (o9.2.2.2.1-2)))) (nth .u8 kP (Int.toNat (IntKind.wrap .u32 ((Int.tmod (IntKind.wrap .u32 o9.2.2.1) 100)*2))))) 0 (0+((Int.toNat y2.1)-0))),())) none)) none) none) none) none) (cond (decide (0<o9.2.2.2.1)) (cond (inb 0 o9.2.1) (cond (jD 0 y2.1 24) (some ((slice (List.set o9.2.2.2.2 (o9.1+0) (za4 (IntKind.wrap .u32 (48+(IntKind.wrap .u32 o9.2.2.1))))) 0 (0+((Int.toNat y2.1)-0))),())) none) none) (cond (jD 0 y2.1 24) (some ((slice o9.2.2.2.2 0 (0+((Int.toNat y2.1)-0))),())) none))))) none)))
def jM(N:Nat)(p0:(List UInt8)):Option (Int×Bool×Unit):=
 (cond (Nat.ble (List.length p0) zii) (zkc (Go.Lib.parseUintB 32 p0) (fun u1=>(Option.bind (ze N (IntKind.wrap .u32 u1)) fun y2=>(cond (y2.1 != p0) (some (0,false,())) (some ((IntKind.wrap .u32 u1),true,()))))) (some (0,false,())) (some (0,false,()))) none)
def zw(N:Nat)(p0:(List UInt8)):Option ((List UInt8)×Unit):=
 (cond (Nat.blt (0+(List.length p0)) jh) (some (([]++p0),())) none)
def jG(N:Nat){R:Type}(x2:Int)(x3:List UInt8)(rec_:(Int)->(List UInt8)->Option R)(o0:(Int)->(List UInt8)->Option R):Option R:=
 (cond (decide ((10:Int)<=x2)) (cond (jD (Int.tmod x2 (10:Int)) (IntKind.wrap .u32 ((Int.tmod x2 (10:Int))+(1:Int))) 10) (cond (decide (List.length (slice ([48,49,50,51,52,53,54,55,56,57]:List UInt8) (Int.toNat (Int.tmod x2 (10:Int))) (Int.toNat (IntKind.wrap .u32 ((Int.tmod x2 (10:Int))+(1:Int)))))+List.length x3<4611686018427387904)) (rec_ (IntKind.wrap .u32 (Int.tdiv x2 (10:Int))) ((slice ([48,49,50,51,52,53,54,55,56,57]:List UInt8) (Int.toNat (Int.tmod x2 (10:Int))) (Int.toNat (IntKind.wrap .u32 ((Int.tmod x2 (10:Int))+(1:Int)))))++x3)) none) none) (o0 x2 x3))
def zF(N:Nat):Nat->(Int)->(List UInt8)->Option ((Int)×(List UInt8))
 |0,_,_=>none
 |m+1,x2,x3=>jG N x2 x3 (zF N m) (fun v0 v1=>some (v0,v1))
def qX(N:Nat)(p0:Int):Option ((List UInt8)×Unit):=
 (Option.bind (zF N N p0 ([]:List UInt8)) fun o5=>(cond (jD o5.1 (IntKind.wrap .u32 (o5.1+1)) 10) (cond (decide (List.length (slice ([48,49,50,51,52,53,54,55,56,57]:List UInt8) (Int.toNat o5.1) (Int.toNat (IntKind.wrap .u32 (o5.1+1))))+List.length o5.2<4611686018427387904)) (some (((slice ([48,49,50,51,52,53,54,55,56,57]:List UInt8) (Int.toNat o5.1) (Int.toNat (IntKind.wrap .u32 (o5.1+1))))++o5.2),())) none) none))
def j5(N:Nat){R:Type}(x2:List UInt8)(x3:Int)(x4:Int)(rec_:(List UInt8)->(Int)->(Int)->Option R)(o0:Unit->Option R)(o1:(List UInt8)->(Int)->Option R):Option R:=
 (cond (decide (x4<(((List.length x2):Nat):Int))) (cond (inb x4 (List.length x2)) (cond (decide ((nth .u8 x2 (Int.toNat x4))<48)) (o0 ()) (cond (inb x4 (List.length x2)) (cond (decide (57<(nth .u8 x2 (Int.toNat x4)))) (o0 ()) (cond (inb x4 (List.length x2)) (rec_ x2 (IntKind.wrap .u64 ((IntKind.wrap .u64 (10*x3))+(IntKind.wrap .u64 ((UInt8.toNat ((nth .u8 x2 (Int.toNat x4))-48):Nat):Int)))) (IntKind.wrap .i64 (x4+1))) none)) none)) none) (o1 x2 x3))
def zL(N:Nat):Nat->(List UInt8)->(Int)->(Int)->Option ((Unit) ⊕ ((List UInt8)×(Int)))
 |0,_,_,_=>none
 |m+1,x2,x3,x4=>j5 N x2 x3 x4 (zL N m) (fun _=>some (Sum.inl ())) (fun v0 v1=>some (Sum.inr (v0,v1)))
def jr(N:Nat)(p0:(List UInt8)):Option (Int×Bool×Unit):=
 (cond (decide (10<(((List.length p0):Nat):Int))) (some (0,false,())) (Option.bind (zL N N p0 0 0) fun o10=>(wQ o10 (fun a11=>(some (0,false,()))) (fun b12=>(cond (decide (4294967295<b12.2)) (some (0,false,())) (Option.bind (qX N (IntKind.wrap .u32 b12.2)) fun y13=>(cond (y13.1 != b12.1) (some (0,false,())) (some ((IntKind.wrap .u32 b12.2),true,())))))))))
def kd(N:Nat)(p0:(List UInt8))(p1:(List UInt8)):Option (Bool×Unit):=
 (some ((p0==p1),()))
@[reducible] def uK3:U:=(.pair (.sl .u8) (.pair (.int .i64) (.pair (.int .i64) (.int .i64))))
def zv(N:Nat)(p0:(El uK3)):Option ((El uK3)×Bool×Unit):=
 (cond (decide ((IntKind.wrap .i64 ((((List.length p0.1):Nat):Int)-p0.2.1))<p0.2.2.1)) (some (p0,false,())) (some ((p0.1,((IntKind.wrap .i64 (p0.2.1+p0.2.2.1)),((0:Int),(IntKind.wrap .i64 (p0.2.1+p0.2.2.1))))),true,())))
def zX(N:Nat)(p0:(El uK3)):Option ((El uK3)×Int×Bool×Unit):=
 (cond (zh2 p0.2.2.2 p0.1&&true) (cond ((Nat.ble (List.length (zcC p0.1 (Int.toNat p0.2.2.2))) zcR)&&true) (cond (decide ((Go.Lib.index (zcC p0.1 (Int.toNat p0.2.2.2)) ([(13:UInt8),(10:UInt8)]:List UInt8))<(0:Int))) (some ((p0.1,(p0.2.1,(p0.2.2.1,(if(IntKind.wrap .i64 ((((List.length p0.1):Nat):Int)-(1:Int))) > p0.2.2.2 then(IntKind.wrap .i64 ((((List.length p0.1):Nat):Int)-(1:Int))) else p0.2.2.2)))),(0:Int),false,())) (some (p0,(IntKind.wrap .i64 (p0.2.2.2+(Go.Lib.index (zcC p0.1 (Int.toNat p0.2.2.2)) ([(13:UInt8),(10:UInt8)]:List UInt8)))),true,()))) none) none)
def jk(N:Nat)(p0:(List UInt8))(p1:(List UInt8)):Option (Bool×Unit):=
 (cond (decide ((((List.length p1):Nat):Int)<=(((List.length p0):Nat):Int))) (cond (zh2 (IntKind.wrap .i64 ((((List.length p0):Nat):Int)-(((List.length p1):Nat):Int))) p0&&true) (Option.bind (kd N (zcC p0 (Int.toNat (IntKind.wrap .i64 ((((List.length p0):Nat):Int)-(((List.length p1):Nat):Int))))) p1) fun y1=>(some (y1.1,()))) none) (some (false,())))
def qx(N:Nat)(p0:(List UInt8))(p1:(List UInt8)):Option ((List UInt8)×Bool×Unit):=
 (Option.bind (jk N p0 p1) fun y1=>(cond (!y1.1) (some (p0,false,())) (cond ((jD (0:Int) (IntKind.wrap .i64 ((((List.length p0):Nat):Int)-(((List.length p1):Nat):Int))) (List.length p0))&&true) (some ((slice p0 0 (Int.toNat (IntKind.wrap .i64 ((((List.length p0):Nat):Int)-(((List.length p1):Nat):Int))))),true,())) none)))
def zG(N:Nat){R:Type}(x1:List UInt8)(x2:UInt8)(x3:Int)(rec_:(List UInt8)->(UInt8)->(Int)->Option R)(o0:(Int)->Option R)(o1:Unit->Option R):Option R:=
 (cond (decide ((0:Int)<=x3)) (cond (inb x3 (List.length x1)) (cond ((nth .u8 x1 (Int.toNat x3))==x2) (o0 x3) (rec_ x1 x2 (IntKind.wrap .i64 (x3-(1:Int))))) none) (o1 ()))
def zi(N:Nat):Nat->(List UInt8)->(UInt8)->(Int)->Option (((Int)) ⊕ (Unit))
 |0,_,_,_=>none
 |m+1,x1,x2,x3=>zG N x1 x2 x3 (zi N m) (fun v0=>some (Sum.inl v0)) (fun _=>some (Sum.inr ()))
def qa(N:Nat)(p0:(List UInt8))(p1:UInt8):Option (Int×Unit):=
 (Option.bind (zi N N p0 p1 (IntKind.wrap .i64 ((((List.length p0):Nat):Int)-(1:Int)))) fun o9=>(wQ o9 (fun a10=>(some (a10,()))) (fun b11=>(some ((-1:Int),())))))
def zV(N:Nat)(p0:(List UInt8))(p1:UInt8):Option (Int×Unit):=
 (Option.bind (qa N p0 p1) fun y1=>(some (y1.1,())))
def qz(N:Nat)(p0:(List UInt8)):Option (Int×Bool×Unit):=
 (Option.bind (qx N p0 ([(125:UInt8)]:List UInt8)) fun y1=>(cond (!y1.2.1) (some ((0:Int),false,())) (Option.bind (zV N y1.1 (123:UInt8)) fun y2=>(cond (decide (y2.1<(0:Int))) (some ((0:Int),false,())) (cond (zh2 (IntKind.wrap .i64 (y2.1+(1:Int))) y1.1&&true) (Option.bind (jM N (zcC y1.1 (Int.toNat (IntKind.wrap .i64 (y2.1+(1:Int)))))) fun y3=>(some ((IntKind.wrap .i64 y3.1),y3.2.1,()))) none)))))
def zn(N:Nat)(p0:(El uK3))(p1:Int)(p2:(List UInt8))(p3:Int):Option ((El uK3)×(Int×(List UInt8))×Bool×Unit):=
 (Option.bind (zw N p2) fun y1=>(cond (zh2 p3 p0.1&&true) (Option.bind (zw N (zcC p0.1 (Int.toNat p3))) fun y2=>(some ((y2.1,((0:Int),((0:Int),(0:Int)))),(p1,y1.1),true,()))) none))
def zj(N:Nat)(p0:(El uK3)):Option ((El uK3)×(Int×(List UInt8))×Bool×Unit):=
 (Option.bind (zv N p0) fun y1=>(cond (!y1.2.1) (some (y1.1,((0:Int),([]:List UInt8)),false,())) (Option.bind (zX N y1.1) fun y2=>(cond (!y2.2.2.1) (some (y2.1,((0:Int),([]:List UInt8)),false,())) (cond ((jD y2.1.2.1 y2.2.1 (List.length y2.1.1))&&true) (Option.bind (qz N (slice y2.1.1 (Int.toNat y2.1.2.1) (Int.toNat y2.2.1))) fun y3=>(cond (decide ((8192:Int)<(((List.length (slice y2.1.1 (Int.toNat y2.1.2.1) (Int.toNat y2.2.1))):Nat):Int))) (cond ((jD (0:Int) (8192:Int) (List.length (slice y2.1.1 (Int.toNat y2.1.2.1) (Int.toNat y2.2.1))))&&true) (Option.bind (zn N y2.1 (3:Int) (slice (slice y2.1.1 (Int.toNat y2.1.2.1) (Int.toNat y2.2.1)) 0 8192) (IntKind.wrap .i64 (y2.2.1+(2:Int)))) fun y4=>(some (y4.1,y4.2.1,y4.2.2.1,()))) none) (cond (!y3.2.1) (cond ((jD (0:Int) y2.2.1 (List.length y2.1.1))&&true) (Option.bind (zn N y2.1 (1:Int) (slice y2.1.1 0 (Int.toNat y2.2.1)) (IntKind.wrap .i64 (y2.2.1+(2:Int)))) fun y5=>(some (y5.1,y5.2.1,y5.2.2.1,()))) none) (cond (decide ((65536:Int)<y3.1)) (cond ((jD (0:Int) y2.2.1 (List.length y2.1.1))&&true) (Option.bind (zn N y2.1 (4:Int) (slice y2.1.1 0 (Int.toNat y2.2.1)) (IntKind.wrap .i64 (y2.2.1+(2:Int)))) fun y6=>(some (y6.1,y6.2.1,y6.2.2.1,()))) none) (some ((y2.1.1,((IntKind.wrap .i64 (y2.2.1+(2:Int))),(y3.1,y2.1.2.2.2))),((2:Int),([]:List UInt8)),true,())))))) none)))))
def zW(N:Nat)(p0:(El uK3)):Option ((El uK3)×Int×Unit):=
 (some (p0,(((List.length p0.1):Nat):Int),()))
def j3(N:Nat){R:Type}(x12:List UInt8)(x13:Int)(x14:Int)(x15:Int)(x16:List (Int×(List UInt8)))(rec_:(List UInt8)->(Int)->(Int)->(Int)->(List (Int×(List UInt8)))->Option R)(o0:(List UInt8)->(Int)->(Int)->(Int)->(List (Int×(List UInt8)))->Option R):Option R:=
 (Option.bind (zj N (x12,(x13,(x14,x15)))) fun y19=>(cond (!y19.2.2.1) (o0 y19.1.1 y19.1.2.1 y19.1.2.2.1 y19.1.2.2.2 x16) (cond (Nat.blt ((List.length x16)+1) jh) (rec_ y19.1.1 y19.1.2.1 y19.1.2.2.1 y19.1.2.2.2 (x16++([y19.2.1]:List (Int×(List UInt8))))) none)))
def zK(N:Nat):Nat->(List UInt8)->(Int)->(Int)->(Int)->(List (Int×(List UInt8)))->Option ((List UInt8)×(Int)×(Int)×(Int)×(List (Int×(List UInt8))))
 |0,_,_,_,_,_=>none
 |m+1,x12,x13,x14,x15,x16=>j3 N x12 x13 x14 x15 x16 (zK N m) (fun v0 v1 v2 v3 v4=>some (v0,v1,v2,v3,v4))
def jN(N:Nat)(p0:(List UInt8)):Option ((List (Int×(List UInt8)))×Int×Unit):=
 (cond (Nat.blt (List.length p0) jh) (Option.bind (zj N (p0,((0:Int),((0:Int),(0:Int))))) fun y2=>(cond (!y2.2.2.1) (Option.bind (zW N y2.1) fun y3=>(some (([]:List (Int×(List UInt8))),y3.2.1,()))) (Option.bind (zK N N y2.1.1 y2.1.2.1 y2.1.2.2.1 y2.1.2.2.2 ([y2.2.1]:List (Int×(List UInt8)))) fun o20=>(Option.bind (zW N (o20.1,(o20.2.1,(o20.2.2.1,o20.2.2.2.1)))) fun y21=>(some (o20.2.2.2.2,y21.2.1,())))))) none)
def kF(N:Nat){R:Type}(x1:List UInt8)(x2:Int)(rec_:(List UInt8)->(Int)->Option R)(o0:(Int)->Option R)(o1:Unit->Option R):Option R:=
 (cond (decide ((IntKind.wrap .i64 (x2+(1:Int)))<(((List.length x1):Nat):Int))) (cond (inb x2 (List.length x1)) (cond ((nth .u8 x1 (Int.toNat x2))==(13:UInt8)) (cond (inb (IntKind.wrap .i64 (x2+(1:Int))) (List.length x1)) (cond ((nth .u8 x1 (Int.toNat (IntKind.wrap .i64 (x2+(1:Int)))))==(10:UInt8)) (o0 x2) (rec_ x1 (IntKind.wrap .i64 (x2+(1:Int))))) none) (rec_ x1 (IntKind.wrap .i64 (x2+(1:Int))))) none) (o1 ()))
def qe(N:Nat):Nat->(List UInt8)->(Int)->Option (((Int)) ⊕ (Unit))
 |0,_,_=>none
 |m+1,x1,x2=>kF N x1 x2 (qe N m) (fun v0=>some (Sum.inl v0)) (fun _=>some (Sum.inr ()))
def ke(N:Nat)(p0:(List UInt8))(p1:Int):Option (Int×Unit):=
 (Option.bind (qe N N p0 p1) fun o8=>(wQ o8 (fun a9=>(some (a9,()))) (fun b10=>(some ((-1:Int),())))))
def jj(N:Nat){R:Type}(x1:List UInt8)(x2:Int)(x3:Int)(rec_:(List UInt8)->(Int)->(Int)->Option R)(o0:(List UInt8)->(Int)->(Int)->Option R):Option R:=
 (cond (decide ((0:Int)<x3)) (cond (inb (IntKind.wrap .i64 (x3-(1:Int))) (List.length x1)) (cond (decide ((48:UInt8)<=(nth .u8 x1 (Int.toNat (IntKind.wrap .i64 (x3-(1:Int))))))) (cond (inb (IntKind.wrap .i64 (x3-(1:Int))) (List.length x1)) (cond (decide ((nth .u8 x1 (Int.toNat (IntKind.wrap .i64 (x3-(1:Int)))))<=(57:UInt8))) (rec_ x1 x2 (IntKind.wrap .i64 (x3-(1:Int)))) (o0 x1 x2 x3)) none) (o0 x1 x2 x3)) none) (o0 x1 x2 x3))
def zB(N:Nat):Nat->(List UInt8)->(Int)->(Int)->Option ((List UInt8)×(Int)×(Int))
 |0,_,_,_=>none
 |m+1,x1,x2,x3=>jj N x1 x2 x3 (zB N m) (fun v0 v1 v2=>some (v0,v1,v2))
def qA(N:Nat)(p0:(List UInt8)):Option (Int×Bool×Unit):=
 (cond (decide ((IntKind.wrap .i64 ((((List.length p0):Nat):Int)-(1:Int)))<(0:Int))) (some ((0:Int),false,())) (cond (inb (IntKind.wrap .i64 ((((List.length p0):Nat):Int)-(1:Int))) (List.length p0)) (cond ((nth .u8 p0 (Int.toNat (IntKind.wrap .i64 ((((List.length p0):Nat):Int)-(1:Int))))) != (125:UInt8)) (some ((0:Int),false,())) (Option.bind (zB N N p0 (IntKind.wrap .i64 ((((List.length p0):Nat):Int)-(1:Int))) (IntKind.wrap .i64 ((((List.length p0):Nat):Int)-(1:Int)))) fun o5=>(cond ((jD o5.2.2 o5.2.1 (List.length o5.1))&&true) (Option.bind (jr N (slice o5.1 (Int.toNat o5.2.2) (Int.toNat o5.2.1))) fun y6=>(cond (!y6.2.1) (some ((0:Int),false,())) (cond (o5.2.2==(0:Int)) (some ((0:Int),false,())) (cond (inb (IntKind.wrap .i64 (o5.2.2-(1:Int))) (List.length o5.1)) (cond ((nth .u8 o5.1 (Int.toNat (IntKind.wrap .i64 (o5.2.2-(1:Int))))) != (123:UInt8)) (some ((0:Int),false,())) (some ((IntKind.wrap .i64 y6.1),true,()))) none)))) none))) none))
def jx(N:Nat){R:Type}(x12:List UInt8)(x13:Int)(x14:List (Int×(List UInt8)))(rec_:(List UInt8)->(Int)->(List (Int×(List UInt8)))->Option R)(o0:(Int)->(List (Int×(List UInt8)))->Option R)(o1:(List (Int×(List UInt8)))->Option R):Option R:=
 (cond (decide (x13<=(((List.length x12):Nat):Int))) (Option.bind (ke N x12 x13) fun y18=>(cond (decide (y18.1<(0:Int))) (o0 (-1:Int) x14) (cond ((jD x13 y18.1 (List.length x12))&&true) (cond (decide ((8192:Int)<(((List.length (slice x12 (Int.toNat x13) (Int.toNat y18.1))):Nat):Int))) (cond ((jD (0:Int) (8192:Int) (List.length (slice x12 (Int.toNat x13) (Int.toNat y18.1))))&&true) (cond (Nat.blt (0+(List.length (slice (slice x12 (Int.toNat x13) (Int.toNat y18.1)) 0 8192))) jh) (cond (Nat.blt ((List.length x14)+1) jh) (o0 (IntKind.wrap .i64 (y18.1+(2:Int))) (x14++([((3:Int),(([]:List UInt8)++(slice (slice x12 (Int.toNat x13) (Int.toNat y18.1)) 0 8192)))]:List (Int×(List UInt8))))) none) none) none) (Option.bind (qA N (slice x12 (Int.toNat x13) (Int.toNat y18.1))) fun y19=>(cond (!y19.2.1) (cond ((jD (0:Int) y18.1 (List.length x12))&&true) (cond (Nat.blt (0+(List.length (slice x12 0 (Int.toNat y18.1)))) jh) (cond (Nat.blt ((List.length x14)+1) jh) (o0 (IntKind.wrap .i64 (y18.1+(2:Int))) (x14++([((1:Int),(([]:List UInt8)++(slice x12 0 (Int.toNat y18.1))))]:List (Int×(List UInt8))))) none) none) none) (cond (decide ((65536:Int)<y19.1)) (cond ((jD (0:Int) y18.1 (List.length x12))&&true) (cond (Nat.blt (0+(List.length (slice x12 0 (Int.toNat y18.1)))) jh) (cond (Nat.blt ((List.length x14)+1) jh) (o0 (IntKind.wrap .i64 (y18.1+(2:Int))) (x14++([((4:Int),(([]:List UInt8)++(slice x12 0 (Int.toNat y18.1))))]:List (Int×(List UInt8))))) none) none) none) (cond (Nat.blt ((List.length x14)+1) jh) (rec_ x12 (IntKind.wrap .i64 ((IntKind.wrap .i64 (y18.1+(2:Int)))+y19.1)) (x14++([((2:Int),([]:List UInt8))]:List (Int×(List UInt8))))) none))))) none))) (o1 x14))
def zC(N:Nat):Nat->(List UInt8)->(Int)->(List (Int×(List UInt8)))->Option (((Int)×(List (Int×(List UInt8)))) ⊕ ((List (Int×(List UInt8)))))
 |0,_,_,_=>none
 |m+1,x12,x13,x14=>jx N x12 x13 x14 (zC N m) (fun v0 v1=>some (Sum.inl (v0,v1))) (fun v0=>some (Sum.inr v0))
def qY(N:Nat)(p0:(List UInt8)):Option ((List (Int×(List UInt8)))×Int×Unit):=
 (Option.bind (zC N N p0 (0:Int) ([]:List (Int×(List UInt8)))) fun o24=>(wQ o24 (fun a25=>(some (a25.2,a25.1,()))) (fun b26=>(some (b26,(-1:Int),())))))
def j7(N:Nat){R:Type}(x7:List UInt8)(x8:List (Int×(List UInt8)))(rec_:(List UInt8)->(List (Int×(List UInt8)))->Option R)(o0:(Int)->(List (Int×(List UInt8)))->Option R):Option R:=
 (Option.bind (qY N x7) fun y11=>(cond (Nat.blt ((List.length x8)+(List.length y11.1)) jh) (cond (decide (y11.2.1<(0:Int))) (o0 (((List.length x7):Nat):Int) (x8++y11.1)) (cond (zh2 y11.2.1 x7&&true) (rec_ (zcC x7 (Int.toNat y11.2.1)) (x8++y11.1)) none)) none))
def zM(N:Nat):Nat->(List UInt8)->(List (Int×(List UInt8)))->Option ((Int)×(List (Int×(List UInt8))))
 |0,_,_=>none
 |m+1,x7,x8=>j7 N x7 x8 (zM N m) (fun v0 v1=>some (v0,v1))
def jO(N:Nat)(p0:(List UInt8)):Option ((List (Int×(List UInt8)))×Int×Unit):=
 (Option.bind (zM N N p0 ([]:List (Int×(List UInt8)))) fun o12=>(some (o12.2,o12.1,())))
@[reducible] def uB2:U:=(.pair (.int .i64) (.pair (.int .i64) (.int .u32)))
def jB(N:Nat){R:Type}(x3:List (List UInt8))(x4:List UInt8)(x5:Int)(x6:Int)(rec_:(List (List UInt8))->(List UInt8)->(Int)->(Int)->Option R)(o0:(List (List UInt8))->(List UInt8)->(Int)->Option R):Option R:=
 (cond (decide (x6<(((List.length x3):Nat):Int))) (cond (inb x6 (List.length x3)) (rec_ x3 x4 (IntKind.wrap .i64 (x5+(if(5000:Int)<(((List.length (nth (.sl .u8) x3 (Int.toNat x6))):Nat):Int) then(5000:Int) else(((List.length (nth (.sl .u8) x3 (Int.toNat x6))):Nat):Int)))) (IntKind.wrap .i64 (x6+(1:Int)))) none) (o0 x3 x4 x5))
def zJ(N:Nat):Nat->(List (List UInt8))->(List UInt8)->(Int)->(Int)->Option ((List (List UInt8))×(List UInt8)×(Int))
 |0,_,_,_,_=>none
 |m+1,x3,x4,x5,x6=>jB N x3 x4 x5 x6 (zJ N m) (fun v0 v1 v2=>some (v0,v1,v2))
def xU(N:Nat)(p0:(List (List UInt8)))(p1:(List UInt8)):Option (Bool×Unit):=
 (Option.bind (zJ N N p0 p1 (0:Int) (0:Int)) fun o8=>(cond (decide ((1:Int)<=(((List.length o8.1):Nat):Int))) (cond (decide ((((List.length o8.1):Nat):Int)<=(8:Int))) (cond (decide (o8.2.2<=(4000:Int))) (some ((decide ((((List.length o8.2.1):Nat):Int)<=(300:Int))),())) (some (false,()))) (some (false,()))) (some (false,()))))
def qO(N:Nat)(p0:(Int×Int)):Option (Int×Unit):=
 (some ((IntKind.wrap .i64 ((IntKind.wrap .i64 ((1:Int)+p0.1))+p0.2)),()))
def wg(N:Nat){R:Type}(x11:Int)(x12:List (List UInt8))(x13:Int)(x14:Int)(x15:Int)(x16:Int)(rec_:(Int)->(List (List UInt8))->(Int)->(Int)->(Int)->(Int)->Option R)(o0:(Int)->(Int)->(Int)->Option R):Option R:=
 (cond (decide (x14<x13)) (cond (inb x14 (List.length x12)) (Option.bind (jN N (nth (.sl .u8) x12 (Int.toNat x14))) fun y20=>(Option.bind (qO N (x15,x16)) fun y21=>(rec_ (IntKind.wrap .i64 (x11+(IntKind.wrap .i64 ((((List.length y20.1):Nat):Int)*(IntKind.wrap .i64 ((3:Int)+y21.1)))))) x12 x13 (IntKind.wrap .i64 (x14+(1:Int))) x15 x16))) none) (o0 x11 x15 x16))
def zO(N:Nat):Nat->(Int)->(List (List UInt8))->(Int)->(Int)->(Int)->(Int)->Option ((Int)×(Int)×(Int))
 |0,_,_,_,_,_,_=>none
 |m+1,x11,x12,x13,x14,x15,x16=>wg N x11 x12 x13 x14 x15 x16 (zO N m) (fun v0 v1 v2=>some (v0,v1,v2))
def qC(N:Nat)(p0:(El uB2))(p1:(List (List UInt8))):Option (Int×Unit):=
 (cond ((decide ((-9223372036854775808:Int)<=p0.1)&&decide (p0.1<=(9223372036854775807:Int)))&&(decide ((-9223372036854775808:Int)<=p0.2.1)&&decide (p0.2.1<=(9223372036854775807:Int)))) (cond (decide ((1:Int)<=p0.1)&&(decide (p0.1<=(16:Int))&&(decide ((0:Int)<=p0.2.1)&&decide (p0.2.1<=(4096:Int))))) (cond (decide ((1:Int)<=(((List.length p1):Nat):Int))) (cond (!(decide ((((List.length p1):Nat):Int)<=(16:Int)))) (some ((0:Int),())) (Option.bind (zO N N (0:Int) p1 (((List.length p1):Nat):Int) (0:Int) p0.1 (((List.length p1):Nat):Int)) fun o22=>(some (o22.1,())))) (some ((0:Int),()))) (some ((0:Int),()))) none)
def kf(N:Nat)(p0:Int)(p1:Int):Option (Bool×Unit):=
 (cond (decide ((1:Int)<=p0)) (cond (decide (p0<=(16:Int))) (cond (decide ((0:Int)<=p1)) (some ((decide (p1<=(4096:Int))),())) (some (false,()))) (some (false,()))) (some (false,())))
def kg(N:Nat)(p0:Int)(p1:Int)(p2:Int):Option (Bool×Unit):=
 (Option.bind (kf N p0 p1) fun y1=>(cond y1.1 (cond (decide ((1:Int)<=p2)) (some ((decide (p2<=(16:Int))),())) (some (false,()))) (some (false,()))))
def j9(N:Nat){R:Type}(x5:Int)(x6:List (List UInt8))(x7:Int)(x8:Int)(rec_:(Int)->(List (List UInt8))->(Int)->(Int)->Option R)(o0:(Int)->Option R):Option R:=
 (cond (decide (x8<(((List.length x6):Nat):Int))) (cond (inb x8 (List.length x6)) (Option.bind (jO N (nth (.sl .u8) x6 (Int.toNat x8))) fun y11=>(rec_ x5 x6 (IntKind.wrap .i64 (x7+(IntKind.wrap .i64 ((((List.length y11.1):Nat):Int)*(IntKind.wrap .i64 ((IntKind.wrap .i64 ((4:Int)+x5))+(((List.length x6):Nat):Int))))))) (IntKind.wrap .i64 (x8+(1:Int))))) none) (o0 x7))
def zN(N:Nat):Nat->(Int)->(List (List UInt8))->(Int)->(Int)->Option ((Int))
 |0,_,_,_,_=>none
 |m+1,x5,x6,x7,x8=>j9 N x5 x6 x7 x8 (zN N m) (fun v0=>some v0)
def qB(N:Nat)(p0:Int)(p1:Int)(p2:(List (List UInt8))):Option (Int×Unit):=
 (Option.bind (kg N p0 p1 (((List.length p2):Nat):Int)) fun y1=>(cond (!y1.1) (some ((0:Int),())) (Option.bind (zN N N p0 p2 (0:Int) (0:Int)) fun o12=>(some (o12,())))))
def zR(N:Nat)(p0:(El uB2))(p1:(List (List UInt8))):Option (Bool×Unit):=
 (Option.bind (xU N p1 ([]:List UInt8)) fun y1=>(cond (!y1.1) (cond (decide ((0:Int)<(((List.length p1):Nat):Int))) (Option.bind (some (true,())) fun y2=>(some (y2.1,()))) (Option.bind (some (true,())) fun y3=>(cond y3.1 (Option.bind (qC N p0 p1) fun y4=>(Option.bind (qB N p0.1 p0.2.1 p1) fun y5=>(some ((y4.1==y5.1),())))) (some (false,()))))) (Option.bind (some (true,())) fun y6=>(cond y6.1 (Option.bind (qC N p0 p1) fun y7=>(Option.bind (qB N p0.1 p0.2.1 p1) fun y8=>(some ((y7.1==y8.1),())))) (some (false,()))))))
end Go.Proofs.Model
namespace Go.Sx
open Go Go.Gx Go.Mx
variable [qk]
def zqo(u:U)(rs:List U):SC->Option (El u×El (kb rs))
 |.ret v h=>match unS rs v with
  |some vs=>match qG rs vs h with
   |some (y,h1)=>match(h1[0]?:Option SB) with
    |some (.cells cs 0 _)=>match dec u cs h1 with
     |some (x,[],h2)=>match(h2[0]?:Option SB) with
      |some (.cells _ 0 _)=>some (x,y)
      |_=>none
     |_=>none
    |_=>none
   |none=>none
  |none=>none
 |.pan _ _=>none
def zmz(u:U)(us rs:List U)(F:El u->El (kb us)->Option (El u×El (kb rs))):CF:=fun R args h κ=>match args with
 |.ptr loc 0 lim::args=>match Nat.beq lim u.sz,qG us args h with
  |true,some (y,h1)=>match h1[loc]? with
   |some (.cells cs 0 _)=>match dec u cs h1 with
    |some (x,[],h2)=>match h2[loc]? with
     |some (.cells _ 0 _)=>(F x y).bind fun p=>κ (.ret (zle (qn rs p.2)) (h2.set loc (.cells (enc u p.1) 0)))
     |_=>none
    |_=>none
   |_=>none
  |_,_=>none
 |_=>none
section
variable {P:Program} {gl:GL} {ct:CT} {hk:z7}
theorem zoj{rs:List U}{v:SV}{vs:List SV}{Z:Gst}{xv:AV}(hvs:unS rs v=some vs)(hv:RV Z v xv)(y:El (kb rs)):
  ∃ xs,RVs Z vs xs/\∀ W,(RVs W (qn rs y) xs->RV W (zle (qn rs y)) xv):=by
 unfold unS at hvs
 split at hvs
 ·cases hvs
  exact⟨[xv],.one hv,fun W ⟨a,t,e,q,ht⟩=>by cases e;exact q⟩
 ·rename_i hrs
  split at hvs
  ·cases hvs
   obtain⟨l',rfl,q⟩:=hv
   refine⟨l',q,fun W hW=>?_⟩
   have:zle (qn rs y)=.tup (qn rs y):=by
    match rs,y,hrs with
    | [],_,_=>rfl
    | [u],_,hrs=>exact absurd rfl (hrs u)
    |_::_::_,_,_=>rfl
   rw[this];exact⟨l',rfl,hW⟩
  ·cases hvs
theorem zch{X:Gst}(hr:RH X){loc md:Nat}{cs:List SV}{mk:Option TypeId}(h:X.sh[loc]?=some (.cells cs md mk)):∃ m l tt,X.σ[loc]?=some (some (m,0))/\X.h[m]?=some (.row l 0 0 0 false tt)/\RVs X cs l:=by
 have hl:loc<X.σ.length:=by rw[hr.len];exact(List.getElem?_eq_some_iff.1 h).1
 obtain⟨m,l,tt,e,h1,h2⟩:=hr.blk loc _ _ h (List.getElem?_eq_getElem hl)
 exact⟨m,l,mk.or tt,by rw[List.getElem?_eq_getElem hl,e],h1,h2⟩
theorem zgq{f:FuncId}{u:U}{us rs:List U}{F:El u->El (kb us)->Option (El u×El (kb rs))}{run:CF}(hrun:zdg P gl hk f run)
  (hF:∀ x y,run _ (.ptr 0 0 u.sz::qn us y) [.cells (enc u x) 0] (zqo u rs)=F x y):zdg P gl hk f (zmz u us rs F):=by
 intro R args κ r X margs h hargs hr hg
 unfold zmz at h
 split at h
 ·rename_i loc lim args'
  obtain⟨x0,xs,rfl,⟨m,⟨v0,hat⟩,rfl⟩,hargs⟩:=hargs
  split at h
  ·rename_i y h1 hlim hd1
   have hlim:=Nat.eq_of_beq_eq_true hlim
   subst hlim
   split at h
   ·rename_i cs hcs
    split at h
    ·rename_i x h2 hd2
     split at h
     ·rename_i cs2 hcs2
      obtain⟨Y1,S1,hh1,hs1,hA1⟩:=jb us hr hargs hd1
      rw[<- hs1] at hcs hd2
      obtain⟨m1,l1,tt1,e1,g1,q1⟩:=zch S1.hr hcs
      obtain⟨v1,e1'⟩:=S1.le.at_ loc m v0 hat
      rw[e1] at e1';cases e1'
      obtain⟨Y2,c1,c2,S2,hh2,hs2,ec,hRE,hc2⟩:=wk u S1.hr q1 hd2
      cases(show c2=[] from hc2)
      rw[List.append_nil] at ec
      subst ec
      rw[<- hs2] at hcs2 h
      obtain⟨v2,e2'⟩:=S2.le.at_ loc m 0 e1
      obtain⟨m2,l2,tt2,e2,g2,q2⟩:=zch S2.hr hcs2
      rw[e2] at e2';cases e2'
      rw[hh2] at g2
      rw[g1] at g2;cases g2
      have hnΦ:¬ Y2.Φ m:=fun hΦ=>(S2.hr.own loc m 0 _ hcs2 e2 hΦ).elim (fun e=>by cases e) (fun e=>by cases e)
      have hrow:Y2.h[m]?=some (.row l1 0 0 0 false tt1):=by rw[hh2];exact g1
      have hbσ:∀ (i m' v':Nat),([some (m,0)]:List (Option (Nat×Nat)))[i]?=some (some (m',v'))->i=0/\m'=m/\v'=0:=by
       intro i m' v' hi
       cases i with
       |zero=>simp at hi;exact⟨rfl,hi.1.symm,hi.2.symm⟩
       |succ i=>simp at hi
      have hbs:∀ (i:Nat) (b:SB),([.cells (enc u x) 0]:SH)[i]?=some b->i=0/\b=.cells (enc u x) 0:=by
       intro i b hi
       cases i with
       |zero=>simp at hi;exact⟨rfl,hi.symm⟩
       |succ i=>simp at hi
      have hB:RH (⟨Y2.h,Y2.Φ,[some (m,0)],[.cells (enc u x) 0]⟩:Gst):=by
       refine⟨rfl,fun i j m' v v' h1 h2=>by rw[(hbσ i m' v h1).1,(hbσ j m' v' h2).1],fun i m' v h1=>?_,S2.hr.Φlt,fun i b o h1 h2=>?_,fun i m' v b h1 h2 h3=>?_⟩
       ·rw[(hbσ i m' v h1).2.1];exact S2.hr.lt loc m 0 e2
       ·obtain⟨rfl,rfl⟩:=hbs i b h1
        have h2:o=some (m,0):=by simpa using h2.symm
        subst h2
        exact⟨m,l1,tt1,rfl,hrow,jc hRE⟩
       ·rw[(hbσ i m' v h2).2.1] at h3;exact absurd h3 hnΦ
      have hgB:RGl P gl (⟨Y2.h,Y2.Φ,[some (m,0)],[.cells (enc u x) 0]⟩:Gst):=fun g cs hg'=>((hg.le S1.le).le S2.le) g cs hg'
      have hargsB:RVs (⟨Y2.h,Y2.Φ,[some (m,0)],[.cells (enc u x) 0]⟩:Gst) (.ptr 0 0 u.sz::qn us y) (.ptr m 0 0 u.sz::xs):=
       ⟨_,_,rfl,⟨m,⟨0,rfl⟩,rfl⟩,hA1 _ hh2 fun m' hm=>S2.le.Φ m' hm⟩
      cases hFx:F x y with
      |none=>rw[hFx] at h;cases h
      |some p=>
       rw[hFx] at h
       rw[<- hF x y] at hFx
       obtain⟨q,Z,mq,k1,S3,hcr,ev⟩:=hrun _ _ _ _ _ _ hFx hargsB hB hgB
       cases q with
       |pan v sh=>cases k1
       |ret v sh=>
        cases mq with
        |pan=>cases hcr
        |ret xv hv'=>
         obtain⟨z1,z2,hv⟩:=hcr
         simp only[zqo] at k1
         split at k1
         ·rename_i vs hvs
          split at k1
          ·rename_i y' h3 hd3
           split at k1
           ·rename_i cs3 hcs3
            split at k1
            ·rename_i x' h4 hd4
             split at k1
             ·rename_i cs4 hcs4
              cases k1
              rw[<- z1] at hd3
              obtain⟨ys,hys,hone⟩:=zoj hvs hv y'
              obtain⟨Z1,S4,hh3,hs3,hA3⟩:=jb rs S3.hr hys hd3
              rw[<- hs3] at hcs3 hd4
              obtain⟨m3,l3,tt3,e3,g3,q3⟩:=zch S4.hr hcs3
              obtain⟨v3,e3'⟩:=S4.le.at_ 0 m _ (S3.le.at_ 0 m 0 rfl).choose_spec
              rw[e3] at e3';cases e3'
              obtain⟨Z2,d1,d2,S5,hh4,hs4,ed,hRE2,hd2'⟩:=wk u S4.hr q3 hd4
              cases(show d2=[] from hd2')
              rw[List.append_nil] at ed
              subst ed
              rw[<- hs4] at hcs4
              obtain⟨m4,l4,tt4,e4,g4,q4⟩:=zch S5.hr hcs4
              obtain⟨v4,e4'⟩:=S5.le.at_ 0 m 0 e3
              rw[e4] at e4';cases e4'
              rw[hh4,g3] at g4;cases g4
              have hnΦ2:¬ Z2.Φ m:=fun hΦ=>(S5.hr.own 0 m 0 _ hcs4 e4 hΦ).elim (fun e=>by cases e) (fun e=>by cases e)
              have hrow2:Z2.h[m]?=some (.row l3 0 0 0 false tt3):=by rw[hh4];exact g3
              have S6:=(S3.trans S4).trans S5
              have hsame:∀ m',m'<Y2.h.length->m'≠m->Z2.h[m']?=Y2.h[m']?:=fun m' hm hne=>S6.fm.h m' hm fun i v b hb hσ=>absurd (hbσ i m' v hσ).2.1 hne
              have hphi:∀ m',m'<Y2.h.length->Z2.Φ m'->Y2.Φ m':=fun m' hm hΦ=>(S6.fm.phi m' hm hΦ).elim id fun⟨i,v,b,hb,hσ,_⟩=>by
               rw[(hbσ i m' v hσ).2.1] at hΦ;exact absurd hΦ hnΦ2
              have hloc:loc<Y2.sh.length:=(List.getElem?_eq_some_iff.1 hcs2).1
              have hle:Y2.le ⟨Z2.h,Z2.Φ,Y2.σ,Y2.sh.set loc (.cells (enc u x') 0)⟩:=by
               refine⟨fun m' hm=>hsame m' (S2.hr.Φlt m' hm) fun e=>hnΦ (e ▸ hm),S6.le.Φ,Nat.le_refl _,fun _ _ v h=>⟨v,h⟩,fun i w l k md hi hs=>?_,S2.hr.len⟩
               rcases zp hs with⟨_,e⟩|⟨_,hs⟩
               ·cases e
               ·exact⟨l,k,md,hs,Nat.le_refl _,fun _=>⟨rfl,rfl⟩⟩
              have hW:RVs (⟨Z2.h,Z2.Φ,Y2.σ,Y2.sh.set loc (.cells (enc u x') 0)⟩:Gst) (enc u x') l3:=jc hRE2
              have S7:Stp Y2 ⟨Z2.h,Z2.Φ,Y2.σ,Y2.sh.set loc (.cells (enc u x') 0)⟩:=by
               refine⟨hle,⟨by rw[List.length_set];exact S2.hr.len,S2.hr.inj,fun i m' v h=>Nat.lt_of_lt_of_le (S2.hr.lt i m' v h) S6.fm.len,S5.hr.Φlt,fun i b o hb ho=>?_,fun i m' v b hb ho hΦ=>?_⟩,
                ⟨S6.fm.len,fun m' hm hx=>hsame m' hm fun e=>?_,fun i b hb hm=>?_,fun i m' v h _=>⟨v,h⟩,fun i hgn=>?_,fun m' hm hΦ=>.inl (hphi m' hm hΦ)⟩⟩
               ·rcases zp hb with⟨rfl,rfl⟩|⟨hne,hb⟩
                ·rw[e2] at ho;cases ho
                 exact⟨m,l3,tt3,rfl,hrow2,hW⟩
                ·refine(S2.hr.blk i b o hb ho).le hle fun m' v e=>hsame m' (S2.hr.lt i m' v (e ▸ ho)) fun em=>?_
                 subst e;subst em
                 exact hne (S2.hr.inj i loc _ _ _ ho e2)
               ·rcases zp hb with⟨rfl,rfl⟩|⟨hne,hb⟩
                ·rw[e2] at ho;cases ho
                 exact absurd hΦ hnΦ2
                ·exact S2.hr.own i m' v b hb ho (hphi m' (S2.hr.lt i m' v ho) hΦ)
               ·subst e
                exact absurd rfl (hx loc 0 _ hcs2 e2)
               ·have hne:i≠loc:=fun e=>by subst e;rw[hcs2] at hb;cases hb;exact hm rfl
                exact⟨b,by rw[List.getElem?_set_ne (Ne.symm hne)];exact hb,hm⟩
               ·have hne:i≠loc:=fun e=>by subst e;rw[hcs2] at hgn;cases hgn
                exact⟨by rw[List.getElem?_set_ne (Ne.symm hne)];exact hgn,rfl⟩
              refine⟨_,_,.ret xv hv',h,(S1.trans S2).trans S7,⟨rfl,?_,hone _ (hA3 _ (by rw[<- hh4]) fun m' hm=>S5.le.Φ m' hm)⟩,?_⟩
              ·show Z2.h=hv';rw[hh4,hh3,z2]
              ·rw[<- hh1,<- hh2];exact ev
             ·cases k1
            ·cases k1
           ·cases k1
          ·cases k1
         ·cases k1
     ·cases h
    ·cases h
   ·cases h
  ·cases h
 ·cases h
theorem fnP{T:FT}{al:List FuncId}(hh:zll P hk al)(hT:zhu P gl hk T){f:FuncId}{u:U}{us rs:List U}{F:El u->El (kb us)->Option (El u×El (kb rs))}(pl:Pl){fn:Func}(hf:P.funcs[f]?=some fn){ls:List (Code×LF)}(hs:kO P gl hk ls)
  (ha:(al.all fun f=>zjB T f)=true:=by rfl) (n:Nat:=1500) (h:(match fn.body with|some b=>zz P pl b|none=>none)=some ls:=by kernel_rfl)
  (hF:∀ x y,jE P gl (zdf T) n pl f (.ptr 0 0 u.sz::qn us y) [.cells (enc u x) 0] (zqo u rs)=F x y:=by intro x y;kernel_rfl):zhu P gl hk ((f,zmz u us rs F)::T):=
 ⟨zgq (run:=fun R args h κ=>jE P gl (zdf T) (R:=R) n pl f args h κ) ((zc2 (zom hh ha hT) n).2.2.1 pl f (zeC hf h hs)) hF,hT⟩
end
end Go.Sx
namespace Go.Sx
open Go Go.Gx Go.Mx
theorem wri{x:Int}(h:-9223372036854775808<=x)(h':x<=9223372036854775807):IntKind.wrap .i64 x=x:=by
 simp [IntKind.wrap,IntKind.bits,IntKind.signed];omega
theorem wY{i n:Nat}(h:i<n):inb (i:Int) n=true:=by
 unfold inb;simp;omega
theorem kI{a b n:Nat}(h:a<=b)(h':b<=n):jD (a:Int) (b:Int) n=true:=by
 unfold jD;simp;omega
theorem zg0{u:U}{l:List (El u)}{i:Nat}(h:i<l.length):nth u l i=l[i]:=by
 unfold nth;rw[List.getD_eq_getElem?_getD,List.getElem?_eq_getElem h];rfl
theorem drop_one{α:Type}{l:List α}{i:Nat}(h:i<l.length):l.drop i=l[i]::l.drop (i+1):=List.drop_eq_getElem_cons h
theorem zqK{i n:Nat}(h:i<n):decide ((i:Int)<(n:Int))=true:=by simp;omega
theorem zqJ{i n:Nat}(h:¬ i<n):decide ((i:Int)<(n:Int))=false:=by simp;omega
theorem jq{α:Type}{l:List α}{n:Nat}:slice l 0 n=l.take n:=by unfold slice;simp
theorem ziL{α:Type}{l:List α}{a:Nat}:slice l a l.length=l.drop a:=by
 unfold slice;rw[List.take_of_length_le];rw[List.length_drop];exact Nat.le_refl _
section
variable {u v:U} (hS:∀ a b:El u,ziH u a b=true↔a=b)
include hS
end
end Go.Sx
namespace Go.Proofs.Model
open Go Go.Gx Go.Mx Go.Sx

theorem ze2{n:Nat}(h:n<=200000):Nat.blt n jh=true:=by
 rw[Nat.blt_eq];unfold jh;omega
def dgt(n k:Nat):UInt8:=UInt8.ofNat (48+n/k % 10)
theorem zbS(n:Nat):Int.tmod ((n:Nat):Int) 100=((n % 100:Nat):Int):=rfl
theorem zbT(n:Nat):Int.tmod ((n:Nat):Int) 10000=((n % 10000:Nat):Int):=rfl
theorem zbU(n:Nat):Int.tmod ((n:Nat):Int) 100000000=((n % 100000000:Nat):Int):=rfl
theorem zbP(n:Nat):Int.tdiv ((n:Nat):Int) 100=((n/100:Nat):Int):=rfl
theorem zbQ(n:Nat):Int.tdiv ((n:Nat):Int) 10000=((n/10000:Nat):Int):=rfl
theorem zbR(n:Nat):Int.tdiv ((n:Nat):Int) 100000000=((n/100000000:Nat):Int):=rfl
theorem zfI(n:Nat):((n:Nat):Int)*2=((n*2:Nat):Int):=rfl
theorem zcs(n:Nat):((n:Nat):Int)+1=((n+1:Nat):Int):=rfl
theorem zby(n:Nat):(48:Int)+((n:Nat):Int)=((48+n:Nat):Int):=rfl
theorem ziY{n:Nat}(h:n<4294967296):IntKind.wrap .u32 ((n:Nat):Int)=((n:Nat):Int):=by rw[IntKind.wrap_u32];omega
theorem zd3{n:Nat}(h:n<18446744073709551616):IntKind.wrap .u64 ((n:Nat):Int)=((n:Nat):Int):=by rw[IntKind.wrap_u64];omega
theorem wK{k:Nat}(h:k<100):nth .u8 kP (k*2)=UInt8.ofNat (48+k/10):=by
 have key:((List.range 100).all fun k=>nth .u8 kP (k*2)==UInt8.ofNat (48+k/10))=true:=by kernel_rfl
 rw[List.all_eq_true] at key
 exact beq_iff_eq.1 (key k (List.mem_range.2 h))
theorem xn{k:Nat}(h:k<100):nth .u8 kP (k*2+1)=UInt8.ofNat (48+k % 10):=by
 have key:((List.range 100).all fun k=>nth .u8 kP (k*2+1)==UInt8.ofNat (48+k % 10))=true:=by kernel_rfl
 rw[List.all_eq_true] at key
 exact beq_iff_eq.1 (key k (List.mem_range.2 h))
theorem jU{n:Nat}(h:n<256):za4 ((n:Nat):Int)=UInt8.ofNat n:=by
 unfold za4
 rw[IntKind.wrap_u8,show(((n:Nat):Int) % 256).toNat=n by omega]
theorem jI{n a b:Nat}(h:a=n/b % 10):UInt8.ofNat (48+a)=dgt n b:=by rw[h];rfl
theorem zq3(N n:Nat)(hN:10<=N)(h1:100<=n)(h2:n<1000)(hm:n<4294967296)(hd:zf N ((n:Nat):Int)=some ((3:Int),())):ze N ((n:Nat):Int)=some ([dgt n 100,dgt n 10,dgt n 1],()):=by
 obtain⟨m,hm2⟩:∃ m,N=m+2:=⟨N-2,by omega⟩
 have hl:za N N=za N (m+2):=congrArg _ hm2
 have c0:decide (((n:Nat):Int)<100)=false:=by simp;omega
 unfold ze
 simp only[zd3 (show n<18446744073709551616 by omega)]
 simp only[hd,hl,Option.bind_some,c0,cond_false,cond_true,show jD (0:Int) (3:Int) 24=true from rfl,show((Int.toNat (3:Int))-0:Nat)=3 from rfl]
 unfold za zg
 simp (disch:=omega) only[ziY,zd3,zbS,zbT,zbU,zbP,zbQ,zbR,zfI,zcs,zby,Int.toNat_natCast,wY,wK,xn,jU,cond_true,cond_false,Option.bind_some,
  show inb (0:Int) 3=true from rfl,show inb (1:Int) 3=true from rfl,show inb (2:Int) 3=true from rfl,show(0+Int.toNat (1:Int):Nat)=1 from rfl,show(0+Int.toNat (2:Int):Nat)=2 from rfl,show(0+0:Nat)=0 from rfl,show(0+3:Nat)=3 from rfl,show decide ((8:Int)<=((3:Nat):Int))=false from rfl,show decide ((4:Int)<=((3:Nat):Int))=false from rfl,show decide ((2:Int)<=((3:Nat):Int))=true from rfl,show IntKind.wrap .i64 (((3:Nat):Int)-(1:Int))=(2:Int) from rfl,show IntKind.wrap .i64 (((3:Nat):Int)-(2:Int))=(1:Int) from rfl,show decide ((0:Int)<(1:Int))=true from rfl]
 simp only[slice,List.set_cons_succ,List.set_cons_zero,List.drop_zero,List.take_succ_cons,List.take_zero,Nat.sub_zero,Option.some.injEq,Prod.mk.injEq,List.cons.injEq,and_true]
 refine⟨?_,?_,?_⟩<;>exact jI (by omega)
theorem zq4(N n:Nat)(hN:10<=N)(h1:1000<=n)(h2:n<10000)(hm:n<4294967296)(hd:zf N ((n:Nat):Int)=some ((4:Int),())):ze N ((n:Nat):Int)=some ([dgt n 1000,dgt n 100,dgt n 10,dgt n 1],()):=by
 obtain⟨m,hm2⟩:∃ m,N=m+2:=⟨N-2,by omega⟩
 have hl:za N N=za N (m+2):=congrArg _ hm2
 have c0:decide (((n:Nat):Int)<100)=false:=by simp;omega
 unfold ze
 simp only[zd3 (show n<18446744073709551616 by omega)]
 simp only[hd,hl,Option.bind_some,c0,cond_false,cond_true,show jD (0:Int) (4:Int) 24=true from rfl,show((Int.toNat (4:Int))-0:Nat)=4 from rfl]
 unfold za zg
 simp (disch:=omega) only[ziY,zd3,zbS,zbT,zbU,zbP,zbQ,zbR,zfI,zcs,zby,Int.toNat_natCast,wY,wK,xn,jU,cond_true,cond_false,Option.bind_some,
  show inb (0:Int) 4=true from rfl,show inb (1:Int) 4=true from rfl,show inb (2:Int) 4=true from rfl,show inb (3:Int) 4=true from rfl,show(0+Int.toNat (0:Int):Nat)=0 from rfl,show(0+Int.toNat (1:Int):Nat)=1 from rfl,show(0+Int.toNat (2:Int):Nat)=2 from rfl,show(0+Int.toNat (3:Int):Nat)=3 from rfl,show(0+0:Nat)=0 from rfl,show(0+4:Nat)=4 from rfl,show decide ((8:Int)<=((4:Nat):Int))=false from rfl,show decide ((4:Int)<=((4:Nat):Int))=true from rfl,show IntKind.wrap .i64 (((4:Nat):Int)-(1:Int))=(3:Int) from rfl,show IntKind.wrap .i64 (((4:Nat):Int)-(2:Int))=(2:Int) from rfl,show IntKind.wrap .i64 (((4:Nat):Int)-(3:Int))=(1:Int) from rfl,show IntKind.wrap .i64 (((4:Nat):Int)-(4:Int))=(0:Int) from rfl,show decide ((2:Int)<=(0:Int))=false from rfl,show decide ((0:Int)<(0:Int))=false from rfl]
 simp only[slice,List.set_cons_succ,List.set_cons_zero,List.drop_zero,List.take_succ_cons,List.take_zero,Nat.sub_zero,Option.some.injEq,Prod.mk.injEq,List.cons.injEq,and_true]
 refine⟨?_,?_,?_,?_⟩<;>exact jI (by omega)
theorem zq5(N n:Nat)(hN:10<=N)(h1:10000<=n)(h2:n<100000)(hm:n<4294967296)(hd:zf N ((n:Nat):Int)=some ((5:Int),())):ze N ((n:Nat):Int)=some ([dgt n 10000,dgt n 1000,dgt n 100,dgt n 10,dgt n 1],()):=by
 obtain⟨m,hm2⟩:∃ m,N=m+2:=⟨N-2,by omega⟩
 have hl:za N N=za N (m+2):=congrArg _ hm2
 have c0:decide (((n:Nat):Int)<100)=false:=by simp;omega
 unfold ze
 simp only[zd3 (show n<18446744073709551616 by omega)]
 simp only[hd,hl,Option.bind_some,c0,cond_false,cond_true,show jD (0:Int) (5:Int) 24=true from rfl,show((Int.toNat (5:Int))-0:Nat)=5 from rfl]
 unfold za zg
 simp (disch:=omega) only[ziY,zd3,zbS,zbT,zbU,zbP,zbQ,zbR,zfI,zcs,zby,Int.toNat_natCast,wY,wK,xn,jU,cond_true,cond_false,Option.bind_some,
  show inb (0:Int) 5=true from rfl,show inb (1:Int) 5=true from rfl,show inb (2:Int) 5=true from rfl,show inb (3:Int) 5=true from rfl,show inb (4:Int) 5=true from rfl,show(0+Int.toNat (1:Int):Nat)=1 from rfl,show(0+Int.toNat (2:Int):Nat)=2 from rfl,show(0+Int.toNat (3:Int):Nat)=3 from rfl,show(0+Int.toNat (4:Int):Nat)=4 from rfl,show(0+0:Nat)=0 from rfl,show(0+5:Nat)=5 from rfl,show decide ((8:Int)<=((5:Nat):Int))=false from rfl,show decide ((4:Int)<=((5:Nat):Int))=true from rfl,show IntKind.wrap .i64 (((5:Nat):Int)-(1:Int))=(4:Int) from rfl,show IntKind.wrap .i64 (((5:Nat):Int)-(2:Int))=(3:Int) from rfl,show IntKind.wrap .i64 (((5:Nat):Int)-(3:Int))=(2:Int) from rfl,show IntKind.wrap .i64 (((5:Nat):Int)-(4:Int))=(1:Int) from rfl,show decide ((2:Int)<=(1:Int))=false from rfl,show decide ((0:Int)<(1:Int))=true from rfl]
 simp only[slice,List.set_cons_succ,List.set_cons_zero,List.drop_zero,List.take_succ_cons,List.take_zero,Nat.sub_zero,Option.some.injEq,Prod.mk.injEq,List.cons.injEq,and_true]
 refine⟨?_,?_,?_,?_,?_⟩<;>exact jI (by omega)
theorem zq6(N n:Nat)(hN:10<=N)(h1:100000<=n)(h2:n<1000000)(hm:n<4294967296)(hd:zf N ((n:Nat):Int)=some ((6:Int),())):ze N ((n:Nat):Int)=some ([dgt n 100000,dgt n 10000,dgt n 1000,dgt n 100,dgt n 10,dgt n 1],()):=by
 obtain⟨m,hm2⟩:∃ m,N=m+2:=⟨N-2,by omega⟩
 have hl:za N N=za N (m+2):=congrArg _ hm2
 have c0:decide (((n:Nat):Int)<100)=false:=by simp;omega
 unfold ze
 simp only[zd3 (show n<18446744073709551616 by omega)]
 simp only[hd,hl,Option.bind_some,c0,cond_false,cond_true,show jD (0:Int) (6:Int) 24=true from rfl,show((Int.toNat (6:Int))-0:Nat)=6 from rfl]
 unfold za zg
 simp (disch:=omega) only[ziY,zd3,zbS,zbT,zbU,zbP,zbQ,zbR,zfI,zcs,zby,Int.toNat_natCast,wY,wK,xn,jU,cond_true,cond_false,Option.bind_some,
  show inb (0:Int) 6=true from rfl,show inb (1:Int) 6=true from rfl,show inb (2:Int) 6=true from rfl,show inb (3:Int) 6=true from rfl,show inb (4:Int) 6=true from rfl,show inb (5:Int) 6=true from rfl,show(0+Int.toNat (0:Int):Nat)=0 from rfl,show(0+Int.toNat (1:Int):Nat)=1 from rfl,show(0+Int.toNat (2:Int):Nat)=2 from rfl,show(0+Int.toNat (3:Int):Nat)=3 from rfl,show(0+Int.toNat (4:Int):Nat)=4 from rfl,show(0+Int.toNat (5:Int):Nat)=5 from rfl,show(0+0:Nat)=0 from rfl,show(0+6:Nat)=6 from rfl,show decide ((8:Int)<=((6:Nat):Int))=false from rfl,show decide ((4:Int)<=((6:Nat):Int))=true from rfl,show IntKind.wrap .i64 (((6:Nat):Int)-(1:Int))=(5:Int) from rfl,show IntKind.wrap .i64 (((6:Nat):Int)-(2:Int))=(4:Int) from rfl,show IntKind.wrap .i64 (((6:Nat):Int)-(3:Int))=(3:Int) from rfl,show IntKind.wrap .i64 (((6:Nat):Int)-(4:Int))=(2:Int) from rfl,show decide ((2:Int)<=(2:Int))=true from rfl,show IntKind.wrap .i64 ((2:Int)-(1:Int))=(1:Int) from rfl,show IntKind.wrap .i64 ((2:Int)-(2:Int))=(0:Int) from rfl,show decide ((0:Int)<(0:Int))=false from rfl]
 simp only[slice,List.set_cons_succ,List.set_cons_zero,List.drop_zero,List.take_succ_cons,List.take_zero,Nat.sub_zero,Option.some.injEq,Prod.mk.injEq,List.cons.injEq,and_true]
 refine⟨?_,?_,?_,?_,?_,?_⟩<;>exact jI (by omega)
theorem zq7(N n:Nat)(hN:10<=N)(h1:1000000<=n)(h2:n<10000000)(hm:n<4294967296)(hd:zf N ((n:Nat):Int)=some ((7:Int),())):ze N ((n:Nat):Int)=some ([dgt n 1000000,dgt n 100000,dgt n 10000,dgt n 1000,dgt n 100,dgt n 10,dgt n 1],()):=by
 obtain⟨m,hm2⟩:∃ m,N=m+2:=⟨N-2,by omega⟩
 have hl:za N N=za N (m+2):=congrArg _ hm2
 have c0:decide (((n:Nat):Int)<100)=false:=by simp;omega
 unfold ze
 simp only[zd3 (show n<18446744073709551616 by omega)]
 simp only[hd,hl,Option.bind_some,c0,cond_false,cond_true,show jD (0:Int) (7:Int) 24=true from rfl,show((Int.toNat (7:Int))-0:Nat)=7 from rfl]
 unfold za zg
 simp (disch:=omega) only[ziY,zd3,zbS,zbT,zbU,zbP,zbQ,zbR,zfI,zcs,zby,Int.toNat_natCast,wY,wK,xn,jU,cond_true,cond_false,Option.bind_some,
  show inb (0:Int) 7=true from rfl,show inb (1:Int) 7=true from rfl,show inb (2:Int) 7=true from rfl,show inb (3:Int) 7=true from rfl,show inb (4:Int) 7=true from rfl,show inb (5:Int) 7=true from rfl,show inb (6:Int) 7=true from rfl,show(0+Int.toNat (1:Int):Nat)=1 from rfl,show(0+Int.toNat (2:Int):Nat)=2 from rfl,show(0+Int.toNat (3:Int):Nat)=3 from rfl,show(0+Int.toNat (4:Int):Nat)=4 from rfl,show(0+Int.toNat (5:Int):Nat)=5 from rfl,show(0+Int.toNat (6:Int):Nat)=6 from rfl,show(0+0:Nat)=0 from rfl,show(0+7:Nat)=7 from rfl,show decide ((8:Int)<=((7:Nat):Int))=false from rfl,show decide ((4:Int)<=((7:Nat):Int))=true from rfl,show IntKind.wrap .i64 (((7:Nat):Int)-(1:Int))=(6:Int) from rfl,show IntKind.wrap .i64 (((7:Nat):Int)-(2:Int))=(5:Int) from rfl,show IntKind.wrap .i64 (((7:Nat):Int)-(3:Int))=(4:Int) from rfl,show IntKind.wrap .i64 (((7:Nat):Int)-(4:Int))=(3:Int) from rfl,show decide ((2:Int)<=(3:Int))=true from rfl,show IntKind.wrap .i64 ((3:Int)-(1:Int))=(2:Int) from rfl,show IntKind.wrap .i64 ((3:Int)-(2:Int))=(1:Int) from rfl,show decide ((0:Int)<(1:Int))=true from rfl]
 simp only[slice,List.set_cons_succ,List.set_cons_zero,List.drop_zero,List.take_succ_cons,List.take_zero,Nat.sub_zero,Option.some.injEq,Prod.mk.injEq,List.cons.injEq,and_true]
 refine⟨?_,?_,?_,?_,?_,?_,?_⟩<;>exact jI (by omega)
theorem zq8(N n:Nat)(hN:10<=N)(h1:10000000<=n)(h2:n<100000000)(hm:n<4294967296)(hd:zf N ((n:Nat):Int)=some ((8:Int),())):ze N ((n:Nat):Int)=some ([dgt n 10000000,dgt n 1000000,dgt n 100000,dgt n 10000,dgt n 1000,dgt n 100,dgt n 10,dgt n 1],()):=by
 obtain⟨m,hm2⟩:∃ m,N=m+2:=⟨N-2,by omega⟩
 have hl:za N N=za N (m+2):=congrArg _ hm2
 have c0:decide (((n:Nat):Int)<100)=false:=by simp;omega
 unfold ze
 simp only[zd3 (show n<18446744073709551616 by omega)]
 simp only[hd,hl,Option.bind_some,c0,cond_false,cond_true,show jD (0:Int) (8:Int) 24=true from rfl,show((Int.toNat (8:Int))-0:Nat)=8 from rfl]
 unfold za zg
 unfold za zg
 simp (disch:=omega) only[ziY,zd3,zbS,zbT,zbU,zbP,zbQ,zbR,zfI,zcs,zby,Int.toNat_natCast,wY,wK,xn,jU,cond_true,cond_false,Option.bind_some,
  show inb (0:Int) 8=true from rfl,show inb (1:Int) 8=true from rfl,show inb (2:Int) 8=true from rfl,show inb (3:Int) 8=true from rfl,show inb (4:Int) 8=true from rfl,show inb (5:Int) 8=true from rfl,show inb (6:Int) 8=true from rfl,show inb (7:Int) 8=true from rfl,show(0+Int.toNat (0:Int):Nat)=0 from rfl,show(0+Int.toNat (1:Int):Nat)=1 from rfl,show(0+Int.toNat (2:Int):Nat)=2 from rfl,show(0+Int.toNat (3:Int):Nat)=3 from rfl,show(0+Int.toNat (4:Int):Nat)=4 from rfl,show(0+Int.toNat (5:Int):Nat)=5 from rfl,show(0+Int.toNat (6:Int):Nat)=6 from rfl,show(0+Int.toNat (7:Int):Nat)=7 from rfl,show(0+0:Nat)=0 from rfl,show(0+8:Nat)=8 from rfl,show decide ((8:Int)<=((8:Nat):Int))=true from rfl,show IntKind.wrap .i64 (((8:Nat):Int)-(1:Int))=(7:Int) from rfl,show IntKind.wrap .i64 (((8:Nat):Int)-(2:Int))=(6:Int) from rfl,show IntKind.wrap .i64 (((8:Nat):Int)-(3:Int))=(5:Int) from rfl,show IntKind.wrap .i64 (((8:Nat):Int)-(4:Int))=(4:Int) from rfl,show IntKind.wrap .i64 (((8:Nat):Int)-(5:Int))=(3:Int) from rfl,show IntKind.wrap .i64 (((8:Nat):Int)-(6:Int))=(2:Int) from rfl,show IntKind.wrap .i64 (((8:Nat):Int)-(7:Int))=(1:Int) from rfl,show IntKind.wrap .i64 (((8:Nat):Int)-(8:Int))=(0:Int) from rfl,show decide ((8:Int)<=(0:Int))=false from rfl,show decide ((4:Int)<=(0:Int))=false from rfl,show decide ((2:Int)<=(0:Int))=false from rfl,show decide ((0:Int)<(0:Int))=false from rfl]
 simp only[slice,List.set_cons_succ,List.set_cons_zero,List.drop_zero,List.take_succ_cons,List.take_zero,Nat.sub_zero,Option.some.injEq,Prod.mk.injEq,List.cons.injEq,and_true]
 refine⟨?_,?_,?_,?_,?_,?_,?_,?_⟩<;>exact jI (by omega)
theorem zq9(N n:Nat)(hN:10<=N)(h1:100000000<=n)(h2:n<1000000000)(hm:n<4294967296)(hd:zf N ((n:Nat):Int)=some ((9:Int),())):ze N ((n:Nat):Int)=some ([dgt n 100000000,dgt n 10000000,dgt n 1000000,dgt n 100000,dgt n 10000,dgt n 1000,dgt n 100,dgt n 10,dgt n 1],()):=by
 obtain⟨m,hm2⟩:∃ m,N=m+2:=⟨N-2,by omega⟩
 have hl:za N N=za N (m+2):=congrArg _ hm2
 have c0:decide (((n:Nat):Int)<100)=false:=by simp;omega
 unfold ze
 simp only[zd3 (show n<18446744073709551616 by omega)]
 simp only[hd,hl,Option.bind_some,c0,cond_false,cond_true,show jD (0:Int) (9:Int) 24=true from rfl,show((Int.toNat (9:Int))-0:Nat)=9 from rfl]
 unfold za zg
 unfold za zg
 simp (disch:=omega) only[ziY,zd3,zbS,zbT,zbU,zbP,zbQ,zbR,zfI,zcs,zby,Int.toNat_natCast,wY,wK,xn,jU,cond_true,cond_false,Option.bind_some,
  show inb (0:Int) 9=true from rfl,show inb (1:Int) 9=true from rfl,show inb (2:Int) 9=true from rfl,show inb (3:Int) 9=true from rfl,show inb (4:Int) 9=true from rfl,show inb (5:Int) 9=true from rfl,show inb (6:Int) 9=true from rfl,show inb (7:Int) 9=true from rfl,show inb (8:Int) 9=true from rfl,show(0+Int.toNat (1:Int):Nat)=1 from rfl,show(0+Int.toNat (2:Int):Nat)=2 from rfl,show(0+Int.toNat (3:Int):Nat)=3 from rfl,show(0+Int.toNat (4:Int):Nat)=4 from rfl,show(0+Int.toNat (5:Int):Nat)=5 from rfl,show(0+Int.toNat (6:Int):Nat)=6 from rfl,show(0+Int.toNat (7:Int):Nat)=7 from rfl,show(0+Int.toNat (8:Int):Nat)=8 from rfl,show(0+0:Nat)=0 from rfl,show(0+9:Nat)=9 from rfl,show decide ((8:Int)<=((9:Nat):Int))=true from rfl,show IntKind.wrap .i64 (((9:Nat):Int)-(1:Int))=(8:Int) from rfl,show IntKind.wrap .i64 (((9:Nat):Int)-(2:Int))=(7:Int) from rfl,show IntKind.wrap .i64 (((9:Nat):Int)-(3:Int))=(6:Int) from rfl,show IntKind.wrap .i64 (((9:Nat):Int)-(4:Int))=(5:Int) from rfl,show IntKind.wrap .i64 (((9:Nat):Int)-(5:Int))=(4:Int) from rfl,show IntKind.wrap .i64 (((9:Nat):Int)-(6:Int))=(3:Int) from rfl,show IntKind.wrap .i64 (((9:Nat):Int)-(7:Int))=(2:Int) from rfl,show IntKind.wrap .i64 (((9:Nat):Int)-(8:Int))=(1:Int) from rfl,show decide ((8:Int)<=(1:Int))=false from rfl,show decide ((4:Int)<=(1:Int))=false from rfl,show decide ((2:Int)<=(1:Int))=false from rfl,show decide ((0:Int)<(1:Int))=true from rfl]
 simp only[slice,List.set_cons_succ,List.set_cons_zero,List.drop_zero,List.take_succ_cons,List.take_zero,Nat.sub_zero,Option.some.injEq,Prod.mk.injEq,List.cons.injEq,and_true]
 refine⟨?_,?_,?_,?_,?_,?_,?_,?_,?_⟩<;>exact jI (by omega)
theorem zp3(N n:Nat)(hN:10<=N)(h1:1000000000<=n)(h2:n<10000000000)(hm:n<4294967296)(hd:zf N ((n:Nat):Int)=some ((10:Int),())):ze N ((n:Nat):Int)=some ([dgt n 1000000000,dgt n 100000000,dgt n 10000000,dgt n 1000000,dgt n 100000,dgt n 10000,dgt n 1000,dgt n 100,dgt n 10,dgt n 1],()):=by
 obtain⟨m,hm2⟩:∃ m,N=m+2:=⟨N-2,by omega⟩
 have hl:za N N=za N (m+2):=congrArg _ hm2
 have c0:decide (((n:Nat):Int)<100)=false:=by simp;omega
 unfold ze
 simp only[zd3 (show n<18446744073709551616 by omega)]
 simp only[hd,hl,Option.bind_some,c0,cond_false,cond_true,show jD (0:Int) (10:Int) 24=true from rfl,show((Int.toNat (10:Int))-0:Nat)=10 from rfl]
 unfold za zg
 unfold za zg
 simp (disch:=omega) only[ziY,zd3,zbS,zbT,zbU,zbP,zbQ,zbR,zfI,zcs,zby,Int.toNat_natCast,wY,wK,xn,jU,cond_true,cond_false,Option.bind_some,
  show inb (0:Int) 10=true from rfl,show inb (1:Int) 10=true from rfl,show inb (2:Int) 10=true from rfl,show inb (3:Int) 10=true from rfl,show inb (4:Int) 10=true from rfl,show inb (5:Int) 10=true from rfl,show inb (6:Int) 10=true from rfl,show inb (7:Int) 10=true from rfl,show inb (8:Int) 10=true from rfl,show inb (9:Int) 10=true from rfl,show(0+Int.toNat (0:Int):Nat)=0 from rfl,show(0+Int.toNat (1:Int):Nat)=1 from rfl,show(0+Int.toNat (2:Int):Nat)=2 from rfl,show(0+Int.toNat (3:Int):Nat)=3 from rfl,show(0+Int.toNat (4:Int):Nat)=4 from rfl,show(0+Int.toNat (5:Int):Nat)=5 from rfl,show(0+Int.toNat (6:Int):Nat)=6 from rfl,show(0+Int.toNat (7:Int):Nat)=7 from rfl,show(0+Int.toNat (8:Int):Nat)=8 from rfl,show(0+Int.toNat (9:Int):Nat)=9 from rfl,show(0+0:Nat)=0 from rfl,show(0+10:Nat)=10 from rfl,show decide ((8:Int)<=((10:Nat):Int))=true from rfl,show IntKind.wrap .i64 (((10:Nat):Int)-(1:Int))=(9:Int) from rfl,show IntKind.wrap .i64 (((10:Nat):Int)-(2:Int))=(8:Int) from rfl,show IntKind.wrap .i64 (((10:Nat):Int)-(3:Int))=(7:Int) from rfl,show IntKind.wrap .i64 (((10:Nat):Int)-(4:Int))=(6:Int) from rfl,show IntKind.wrap .i64 (((10:Nat):Int)-(5:Int))=(5:Int) from rfl,show IntKind.wrap .i64 (((10:Nat):Int)-(6:Int))=(4:Int) from rfl,show IntKind.wrap .i64 (((10:Nat):Int)-(7:Int))=(3:Int) from rfl,show IntKind.wrap .i64 (((10:Nat):Int)-(8:Int))=(2:Int) from rfl,show decide ((8:Int)<=(2:Int))=false from rfl,show decide ((4:Int)<=(2:Int))=false from rfl,show decide ((2:Int)<=(2:Int))=true from rfl,show IntKind.wrap .i64 ((2:Int)-(1:Int))=(1:Int) from rfl,show IntKind.wrap .i64 ((2:Int)-(2:Int))=(0:Int) from rfl,show decide ((0:Int)<(0:Int))=false from rfl]
 simp only[slice,List.set_cons_succ,List.set_cons_zero,List.drop_zero,List.take_succ_cons,List.take_zero,Nat.sub_zero,Option.some.injEq,Prod.mk.injEq,List.cons.injEq,and_true]
 refine⟨?_,?_,?_,?_,?_,?_,?_,?_,?_,?_⟩<;>exact jI (by omega)
theorem zjt(n m:Nat):Int.fdiv ((n:Nat):Int) ((m:Nat):Int)=((n/m:Nat):Int):=by
 rw[Int.fdiv_eq_ediv_of_nonneg _ (by omega)];rfl
theorem p8:((2:Int) ^ (min (Int.toNat (8:Int)) (IntKind.bits .u64)))=((256:Nat):Int):=rfl
theorem p16:((2:Int) ^ (min (Int.toNat (16:Int)) (IntKind.bits .u64)))=((65536:Nat):Int):=rfl
theorem p18:((2:Int) ^ (min (Int.toNat (18:Int)) (IntKind.bits .i64)))=((262144:Nat):Int):=rfl
def tL(k:Nat):Nat:=(nth .u8 zlg k).toNat
theorem zk1{k:Nat}(h:k<256)(h0:0<k):2 ^ (tL k-1)<=k/\k<2 ^ tL k/\1<=tL k/\tL k<=8:=by
 have key:((List.range 256).all fun k=>k==0||(Nat.ble (2 ^ (tL k-1)) k&&(Nat.blt k (2 ^ tL k)&&(Nat.ble 1 (tL k)&&Nat.ble (tL k) 8))))=true:=by kernel_rfl
 rw[List.all_eq_true] at key
 have:=key k (List.mem_range.2 h)
 simp only[Bool.or_eq_true,Bool.and_eq_true,beq_iff_eq,Nat.blt_eq] at this
 rcases this with h1|⟨h1,h2,h3,h4⟩
 ·omega
 ·exact⟨Nat.le_of_ble_eq_true h1,h2,Nat.le_of_ble_eq_true h3,Nat.le_of_ble_eq_true h4⟩
theorem u8n{k:Nat}(h:k<256):UInt8.toNat (za4 ((k:Nat):Int))=k:=by
 rw[jU h,UInt8.toNat_ofNat'];omega
theorem zqh(N n:Nat)(h0:0<n)(h:n<4294967296):∃ L:Nat,1<=L/\L<=32/\2 ^ (L-1)<=n/\n<2 ^ L/\qy N ((n:Nat):Int)=some ((L:Int),()):=by
 have c1:decide ((4294967296:Int)<=((n:Nat):Int))=false:=by simp;omega
 unfold qy
 simp only[c1,cond_false,p8,p16,zjt]
 have fin:∀ (b k:Nat),k<256->0<k->b<=24->2 ^ b*k<=n->n<2 ^ b*(k+1)->∃ L:Nat,1<=L/\L<=32/\2 ^ (L-1)<=n/\n<2 ^ L/\(some (((b+tL k:Nat):Int),()):Option (Int×Unit))=some ((L:Int),()):=by
  intro b k hk hk0 hb h1 h2
  obtain⟨q1,q2,q3,q4⟩:=zk1 hk hk0
  refine⟨b+tL k,by omega,by omega,?_,?_,rfl⟩
  ·rw[show b+tL k-1=b+(tL k-1) by omega,Nat.pow_add]
   exact Nat.le_trans (Nat.mul_le_mul_left _ q1) h1
  ·rw[Nat.pow_add]
   exact Nat.lt_of_lt_of_le h2 (Nat.mul_le_mul_left _ q2)
 have val:∀ (b k:Nat),k<256->b<=24->0<k->IntKind.wrap .i64 (((b:Nat):Int)+IntKind.wrap .i64 ((UInt8.toNat (nth .u8 zlg (Int.toNat ((UInt8.toNat (za4 ((k:Nat):Int)):Nat):Int))):Nat):Int))=((b+tL k:Nat):Int):=by
  intro b k hk hb hk0
  have:=zk1 hk hk0
  rw[u8n hk,Int.toNat_natCast]
  show IntKind.wrap .i64 (((b:Nat):Int)+IntKind.wrap .i64 ((tL k:Nat):Int))=_
  rw[wri (x:=((tL k:Nat):Int)) (by omega) (by omega),wri (by omega) (by omega)];omega
 by_cases a1:65536<=n
 ·have c2:decide ((65536:Int)<=((n:Nat):Int))=true:=by simp;omega
  simp only[c2,cond_true]
  by_cases a2:256<=n/65536
  ·have c3:decide ((256:Int)<=((n/65536:Nat):Int))=true:=by simp only[decide_eq_true_eq];omega
   have hk:n/65536/256<256:=by omega
   simp only[c3,cond_true]
   rw[u8n hk,wY hk,cond_true,<- u8n hk]
   have:=val 24 (n/65536/256) hk (by omega) (by omega)
   rw[u8n hk] at this |-
   rw[show((24:Nat):Int)=(24:Int) from rfl] at this
   rw[this]
   exact fin 24 _ hk (by omega) (by omega) (by omega) (by omega)
  ·have c3:decide ((256:Int)<=((n/65536:Nat):Int))=false:=by simp only[decide_eq_false_iff_not];omega
   have hk:n/65536<256:=by omega
   simp only[c3,cond_false]
   rw[u8n hk,wY hk,cond_true]
   have:=val 16 (n/65536) hk (by omega) (by omega)
   rw[u8n hk,show((16:Nat):Int)=(16:Int) from rfl] at this
   rw[this]
   exact fin 16 _ hk (by omega) (by omega) (by omega) (by omega)
 ·have c2:decide ((65536:Int)<=((n:Nat):Int))=false:=by simp;omega
  simp only[c2,cond_false]
  by_cases a2:256<=n
  ·have c3:decide ((256:Int)<=((n:Nat):Int))=true:=by simp;omega
   have hk:n/256<256:=by omega
   simp only[c3,cond_true]
   rw[u8n hk,wY hk,cond_true]
   have:=val 8 (n/256) hk (by omega) (by omega)
   rw[u8n hk,show((8:Nat):Int)=(8:Int) from rfl] at this
   rw[this]
   exact fin 8 _ hk (by omega) (by omega) (by omega) (by omega)
  ·have c3:decide ((256:Int)<=((n:Nat):Int))=false:=by simp;omega
   have hk:n<256:=by omega
   simp only[c3,cond_false]
   rw[u8n hk,wY hk,cond_true]
   have:=val 0 n hk (by omega) (by omega)
   rw[u8n hk,show((0:Nat):Int)=(0:Int) from rfl] at this
   rw[this]
   exact fin 0 _ hk (by omega) (by omega) (by omega) (by omega)
def zqn:List Int:=[1,10,100,1000,10000,100000,1000000,10000000,100000000,1000000000,10000000000,100000000000,1000000000000,10000000000000,100000000000000,1000000000000000,10000000000000000,100000000000000000,1000000000000000000,10000000000000000000]
def pw(k:Nat):Int:=nth (.int .u64) zqn k
theorem digits(N n:Nat)(h0:0<n)(h:n<4294967296):∃ L:Nat,1<=L/\L<=32/\2 ^ (L-1)<=n/\n<2 ^ L/\zf N ((n:Nat):Int)=some (((L*78913/262144+(if pw (L*78913/262144)<=(n:Int) then 1 else 0):Nat):Int),()):=by
 obtain⟨L,h1,h2,h3,h4,h5⟩:=zqh N n h0 h
 refine⟨L,h1,h2,h3,h4,?_⟩
 unfold zf qQ qP
 simp only[h5,Option.bind_some,p18]
 rw[wri (by omega) (by omega),show((L:Nat):Int)*78913=((L*78913:Nat):Int) from rfl,zjt]
 have ht:L*78913/262144<20:=by omega
 simp only[wY ht,Bool.and_self,cond_true,Int.toNat_natCast]
 show Option.bind (cond (decide (pw (L*78913/262144)<=(n:Int))) (some ((1:Int),())) (some ((0:Int),()))) _=_
 by_cases hc:pw (L*78913/262144)<=(n:Int)
 ·rw[decide_eq_true hc,if_pos hc]
  simp only[cond_true,Option.bind_some]
  rw[wri (by omega) (by omega)];rfl
 ·rw[decide_eq_false hc,if_neg hc]
  simp only[cond_false,Option.bind_some]
  rw[wri (by omega) (by omega)];rfl
theorem zmN(N n d:Nat)(h0:100<=n)(h:n<4294967296)(h1:3<=d)(h2:d<=10)(h3:10 ^ (d-1)<=n)(h4:n<10 ^ d):zf N ((n:Nat):Int)=some (((d:Nat):Int),()):=by
 obtain⟨L,q1,q2,q3,q4,q5⟩:=digits N n (by omega) h
 rw[q5]
 clear q5
 have hL:L=1\/L=2\/L=3\/L=4\/L=5\/L=6\/L=7\/L=8\/L=9\/L=10\/L=11\/L=12\/L=13\/L=14\/L=15\/L=16\/L=17\/L=18\/L=19\/L=20\/L=21\/L=22\/L=23\/L=24\/L=25\/L=26\/L=27\/L=28\/L=29\/L=30\/L=31\/L=32:=by omega
 have hd:d=3\/d=4\/d=5\/d=6\/d=7\/d=8\/d=9\/d=10:=by omega
 have fin:L*78913/262144+(if pw (L*78913/262144)<=(n:Int) then 1 else 0)=d:=by
  rcases hd with rfl|rfl|rfl|rfl|rfl|rfl|rfl|rfl<;>simp only[Nat.reduceSub,Nat.reducePow] at h3 h4
  all_goals
   rcases hL with rfl|rfl|rfl|rfl|rfl|rfl|rfl|rfl|rfl|rfl|rfl|rfl|rfl|rfl|rfl|rfl|rfl|rfl|rfl|rfl|rfl|rfl|rfl|rfl|rfl|rfl|rfl|rfl|rfl|rfl|rfl|rfl<;>simp only[Nat.reduceSub,Nat.reducePow] at q3 q4<;>first
    |(exfalso;omega;done)
    |(simp only[Nat.reduceMul,Nat.reduceDiv,show pw 2=100 from rfl,show pw 3=1000 from rfl,show pw 4=10000 from rfl,show pw 5=100000 from rfl,show pw 6=1000000 from rfl,show pw 7=10000000 from rfl,show pw 8=100000000 from rfl,show pw 9=1000000000 from rfl];split<;>omega)
 rw[fin]
def zE:Nat->Nat->List UInt8
 |0,_=>[]
 |f+1,n=>if n<10 then[UInt8.ofNat (48+n)] else zE f (n/10)++[UInt8.ofNat (48+n % 10)]
def dec(n:Nat):List UInt8:=zE 10 n
theorem zqW(n:Nat)(h1:100<=n)(h2:n<1000):dec n=[dgt n 100,dgt n 10,dgt n 1]:=by
 unfold dec
 rw[show zE 10 (n)=zE 9 (n/10)++[UInt8.ofNat (48+n % 10)] from if_neg (by omega)]
 rw[show zE 9 (n/10)=zE 8 (n/10/10)++[UInt8.ofNat (48+n/10 % 10)] from if_neg (by omega)]
 rw[show zE 8 (n/10/10)=[UInt8.ofNat (48+n/10/10)] from if_pos (by omega)]
 simp only[List.cons_append,List.nil_append,List.cons.injEq,and_true]
 refine⟨?_,?_,?_⟩<;>exact jI (by omega)
theorem zqX(n:Nat)(h1:1000<=n)(h2:n<10000):dec n=[dgt n 1000,dgt n 100,dgt n 10,dgt n 1]:=by
 unfold dec
 rw[show zE 10 (n)=zE 9 (n/10)++[UInt8.ofNat (48+n % 10)] from if_neg (by omega)]
 rw[show zE 9 (n/10)=zE 8 (n/10/10)++[UInt8.ofNat (48+n/10 % 10)] from if_neg (by omega)]
 rw[show zE 8 (n/10/10)=zE 7 (n/10/10/10)++[UInt8.ofNat (48+n/10/10 % 10)] from if_neg (by omega)]
 rw[show zE 7 (n/10/10/10)=[UInt8.ofNat (48+n/10/10/10)] from if_pos (by omega)]
 simp only[List.cons_append,List.nil_append,List.cons.injEq,and_true]
 refine⟨?_,?_,?_,?_⟩<;>exact jI (by omega)
theorem zqY(n:Nat)(h1:10000<=n)(h2:n<100000):dec n=[dgt n 10000,dgt n 1000,dgt n 100,dgt n 10,dgt n 1]:=by
 unfold dec
 rw[show zE 10 (n)=zE 9 (n/10)++[UInt8.ofNat (48+n % 10)] from if_neg (by omega)]
 rw[show zE 9 (n/10)=zE 8 (n/10/10)++[UInt8.ofNat (48+n/10 % 10)] from if_neg (by omega)]
 rw[show zE 8 (n/10/10)=zE 7 (n/10/10/10)++[UInt8.ofNat (48+n/10/10 % 10)] from if_neg (by omega)]
 rw[show zE 7 (n/10/10/10)=zE 6 (n/10/10/10/10)++[UInt8.ofNat (48+n/10/10/10 % 10)] from if_neg (by omega)]
 rw[show zE 6 (n/10/10/10/10)=[UInt8.ofNat (48+n/10/10/10/10)] from if_pos (by omega)]
 simp only[List.cons_append,List.nil_append,List.cons.injEq,and_true]
 refine⟨?_,?_,?_,?_,?_⟩<;>exact jI (by omega)
theorem zqZ(n:Nat)(h1:100000<=n)(h2:n<1000000):dec n=[dgt n 100000,dgt n 10000,dgt n 1000,dgt n 100,dgt n 10,dgt n 1]:=by
 unfold dec
 rw[show zE 10 (n)=zE 9 (n/10)++[UInt8.ofNat (48+n % 10)] from if_neg (by omega)]
 rw[show zE 9 (n/10)=zE 8 (n/10/10)++[UInt8.ofNat (48+n/10 % 10)] from if_neg (by omega)]
 rw[show zE 8 (n/10/10)=zE 7 (n/10/10/10)++[UInt8.ofNat (48+n/10/10 % 10)] from if_neg (by omega)]
 rw[show zE 7 (n/10/10/10)=zE 6 (n/10/10/10/10)++[UInt8.ofNat (48+n/10/10/10 % 10)] from if_neg (by omega)]
 rw[show zE 6 (n/10/10/10/10)=zE 5 (n/10/10/10/10/10)++[UInt8.ofNat (48+n/10/10/10/10 % 10)] from if_neg (by omega)]
 rw[show zE 5 (n/10/10/10/10/10)=[UInt8.ofNat (48+n/10/10/10/10/10)] from if_pos (by omega)]
 simp only[List.cons_append,List.nil_append,List.cons.injEq,and_true]
 refine⟨?_,?_,?_,?_,?_,?_⟩<;>exact jI (by omega)
theorem zq0(n:Nat)(h1:1000000<=n)(h2:n<10000000):dec n=[dgt n 1000000,dgt n 100000,dgt n 10000,dgt n 1000,dgt n 100,dgt n 10,dgt n 1]:=by
 unfold dec
 rw[show zE 10 (n)=zE 9 (n/10)++[UInt8.ofNat (48+n % 10)] from if_neg (by omega)]
 rw[show zE 9 (n/10)=zE 8 (n/10/10)++[UInt8.ofNat (48+n/10 % 10)] from if_neg (by omega)]
 rw[show zE 8 (n/10/10)=zE 7 (n/10/10/10)++[UInt8.ofNat (48+n/10/10 % 10)] from if_neg (by omega)]
 rw[show zE 7 (n/10/10/10)=zE 6 (n/10/10/10/10)++[UInt8.ofNat (48+n/10/10/10 % 10)] from if_neg (by omega)]
 rw[show zE 6 (n/10/10/10/10)=zE 5 (n/10/10/10/10/10)++[UInt8.ofNat (48+n/10/10/10/10 % 10)] from if_neg (by omega)]
 rw[show zE 5 (n/10/10/10/10/10)=zE 4 (n/10/10/10/10/10/10)++[UInt8.ofNat (48+n/10/10/10/10/10 % 10)] from if_neg (by omega)]
 rw[show zE 4 (n/10/10/10/10/10/10)=[UInt8.ofNat (48+n/10/10/10/10/10/10)] from if_pos (by omega)]
 simp only[List.cons_append,List.nil_append,List.cons.injEq,and_true]
 refine⟨?_,?_,?_,?_,?_,?_,?_⟩<;>exact jI (by omega)
theorem zq1(n:Nat)(h1:10000000<=n)(h2:n<100000000):dec n=[dgt n 10000000,dgt n 1000000,dgt n 100000,dgt n 10000,dgt n 1000,dgt n 100,dgt n 10,dgt n 1]:=by
 unfold dec
 rw[show zE 10 (n)=zE 9 (n/10)++[UInt8.ofNat (48+n % 10)] from if_neg (by omega)]
 rw[show zE 9 (n/10)=zE 8 (n/10/10)++[UInt8.ofNat (48+n/10 % 10)] from if_neg (by omega)]
 rw[show zE 8 (n/10/10)=zE 7 (n/10/10/10)++[UInt8.ofNat (48+n/10/10 % 10)] from if_neg (by omega)]
 rw[show zE 7 (n/10/10/10)=zE 6 (n/10/10/10/10)++[UInt8.ofNat (48+n/10/10/10 % 10)] from if_neg (by omega)]
 rw[show zE 6 (n/10/10/10/10)=zE 5 (n/10/10/10/10/10)++[UInt8.ofNat (48+n/10/10/10/10 % 10)] from if_neg (by omega)]
 rw[show zE 5 (n/10/10/10/10/10)=zE 4 (n/10/10/10/10/10/10)++[UInt8.ofNat (48+n/10/10/10/10/10 % 10)] from if_neg (by omega)]
 rw[show zE 4 (n/10/10/10/10/10/10)=zE 3 (n/10/10/10/10/10/10/10)++[UInt8.ofNat (48+n/10/10/10/10/10/10 % 10)] from if_neg (by omega)]
 rw[show zE 3 (n/10/10/10/10/10/10/10)=[UInt8.ofNat (48+n/10/10/10/10/10/10/10)] from if_pos (by omega)]
 simp only[List.cons_append,List.nil_append,List.cons.injEq,and_true]
 refine⟨?_,?_,?_,?_,?_,?_,?_,?_⟩<;>exact jI (by omega)
theorem zq2(n:Nat)(h1:100000000<=n)(h2:n<1000000000):dec n=[dgt n 100000000,dgt n 10000000,dgt n 1000000,dgt n 100000,dgt n 10000,dgt n 1000,dgt n 100,dgt n 10,dgt n 1]:=by
 unfold dec
 rw[show zE 10 (n)=zE 9 (n/10)++[UInt8.ofNat (48+n % 10)] from if_neg (by omega)]
 rw[show zE 9 (n/10)=zE 8 (n/10/10)++[UInt8.ofNat (48+n/10 % 10)] from if_neg (by omega)]
 rw[show zE 8 (n/10/10)=zE 7 (n/10/10/10)++[UInt8.ofNat (48+n/10/10 % 10)] from if_neg (by omega)]
 rw[show zE 7 (n/10/10/10)=zE 6 (n/10/10/10/10)++[UInt8.ofNat (48+n/10/10/10 % 10)] from if_neg (by omega)]
 rw[show zE 6 (n/10/10/10/10)=zE 5 (n/10/10/10/10/10)++[UInt8.ofNat (48+n/10/10/10/10 % 10)] from if_neg (by omega)]
 rw[show zE 5 (n/10/10/10/10/10)=zE 4 (n/10/10/10/10/10/10)++[UInt8.ofNat (48+n/10/10/10/10/10 % 10)] from if_neg (by omega)]
 rw[show zE 4 (n/10/10/10/10/10/10)=zE 3 (n/10/10/10/10/10/10/10)++[UInt8.ofNat (48+n/10/10/10/10/10/10 % 10)] from if_neg (by omega)]
 rw[show zE 3 (n/10/10/10/10/10/10/10)=zE 2 (n/10/10/10/10/10/10/10/10)++[UInt8.ofNat (48+n/10/10/10/10/10/10/10 % 10)] from if_neg (by omega)]
 rw[show zE 2 (n/10/10/10/10/10/10/10/10)=[UInt8.ofNat (48+n/10/10/10/10/10/10/10/10)] from if_pos (by omega)]
 simp only[List.cons_append,List.nil_append,List.cons.injEq,and_true]
 refine⟨?_,?_,?_,?_,?_,?_,?_,?_,?_⟩<;>exact jI (by omega)
theorem zp2(n:Nat)(h1:1000000000<=n)(h2:n<10000000000):dec n=[dgt n 1000000000,dgt n 100000000,dgt n 10000000,dgt n 1000000,dgt n 100000,dgt n 10000,dgt n 1000,dgt n 100,dgt n 10,dgt n 1]:=by
 unfold dec
 rw[show zE 10 (n)=zE 9 (n/10)++[UInt8.ofNat (48+n % 10)] from if_neg (by omega)]
 rw[show zE 9 (n/10)=zE 8 (n/10/10)++[UInt8.ofNat (48+n/10 % 10)] from if_neg (by omega)]
 rw[show zE 8 (n/10/10)=zE 7 (n/10/10/10)++[UInt8.ofNat (48+n/10/10 % 10)] from if_neg (by omega)]
 rw[show zE 7 (n/10/10/10)=zE 6 (n/10/10/10/10)++[UInt8.ofNat (48+n/10/10/10 % 10)] from if_neg (by omega)]
 rw[show zE 6 (n/10/10/10/10)=zE 5 (n/10/10/10/10/10)++[UInt8.ofNat (48+n/10/10/10/10 % 10)] from if_neg (by omega)]
 rw[show zE 5 (n/10/10/10/10/10)=zE 4 (n/10/10/10/10/10/10)++[UInt8.ofNat (48+n/10/10/10/10/10 % 10)] from if_neg (by omega)]
 rw[show zE 4 (n/10/10/10/10/10/10)=zE 3 (n/10/10/10/10/10/10/10)++[UInt8.ofNat (48+n/10/10/10/10/10/10 % 10)] from if_neg (by omega)]
 rw[show zE 3 (n/10/10/10/10/10/10/10)=zE 2 (n/10/10/10/10/10/10/10/10)++[UInt8.ofNat (48+n/10/10/10/10/10/10/10 % 10)] from if_neg (by omega)]
 rw[show zE 2 (n/10/10/10/10/10/10/10/10)=zE 1 (n/10/10/10/10/10/10/10/10/10)++[UInt8.ofNat (48+n/10/10/10/10/10/10/10/10 % 10)] from if_neg (by omega)]
 rw[show zE 1 (n/10/10/10/10/10/10/10/10/10)=[UInt8.ofNat (48+n/10/10/10/10/10/10/10/10/10)] from if_pos (by omega)]
 simp only[List.cons_append,List.nil_append,List.cons.injEq,and_true]
 refine⟨?_,?_,?_,?_,?_,?_,?_,?_,?_,?_⟩<;>exact jI (by omega)
theorem zkM(N:Nat){n:Nat}(h:n<100):qZ N ((n:Nat):Int)=some (dec n,()):=by
 have key:((List.range 100).all fun n=>decide (qZ 0 ((n:Nat):Int)=some (dec n,())))=true:=by kernel_rfl
 rw[List.all_eq_true] at key
 exact of_decide_eq_true (key n (List.mem_range.2 h))
theorem zns(N n:Nat)(hN:10<=N)(h:n<4294967296):ze N ((n:Nat):Int)=some (dec n,()):=by
 by_cases h0:n<100
 ·have c0:decide (((n:Nat):Int)<100)=true:=by simp;omega
  unfold ze
  simp only[zd3 (show n<18446744073709551616 by omega),c0,cond_true]
  rw[wri (by omega) (by omega),zkM N h0];rfl
 ·rcases(show(100<=n/\n<1000)\/(1000<=n/\n<10000)\/(10000<=n/\n<100000)\/(100000<=n/\n<1000000)\/(1000000<=n/\n<10000000)\/(10000000<=n/\n<100000000)\/(100000000<=n/\n<1000000000)\/(1000000000<=n/\n<10000000000) by omega) with⟨h1,h2⟩|⟨h1,h2⟩|⟨h1,h2⟩|⟨h1,h2⟩|⟨h1,h2⟩|⟨h1,h2⟩|⟨h1,h2⟩|⟨h1,h2⟩
  ·rw[zqW n h1 h2];exact zq3 N n hN h1 h2 h (zmN N n 3 (by omega) h (by omega) (by omega) h1 h2)
  ·rw[zqX n h1 h2];exact zq4 N n hN h1 h2 h (zmN N n 4 (by omega) h (by omega) (by omega) h1 h2)
  ·rw[zqY n h1 h2];exact zq5 N n hN h1 h2 h (zmN N n 5 (by omega) h (by omega) (by omega) h1 h2)
  ·rw[zqZ n h1 h2];exact zq6 N n hN h1 h2 h (zmN N n 6 (by omega) h (by omega) (by omega) h1 h2)
  ·rw[zq0 n h1 h2];exact zq7 N n hN h1 h2 h (zmN N n 7 (by omega) h (by omega) (by omega) h1 h2)
  ·rw[zq1 n h1 h2];exact zq8 N n hN h1 h2 h (zmN N n 8 (by omega) h (by omega) (by omega) h1 h2)
  ·rw[zq2 n h1 h2];exact zq9 N n hN h1 h2 h (zmN N n 9 (by omega) h (by omega) (by omega) h1 h2)
  ·rw[zp2 n h1 h2];exact zp3 N n hN h1 h2 h (zmN N n 10 (by omega) h (by omega) (by omega) h1 h2)
theorem zlt(N n:Nat)(hN:10<=N)(h:n<4294967296):ze N ((n:Nat):Int)=some (dec n,()):=by
 exact zns N n hN h
theorem zhE:∀ f n,(zE f n).length<=f
 |0,n=>by simp [zE]
 |f+1,n=>by
  unfold zE
  split
  ·simp
  ·have:=zhE f (n/10);simp;omega
theorem zf3{k:Nat}(h:k<10):slice ([48,49,50,51,52,53,54,55,56,57]:List UInt8) k (k+1)=[UInt8.ofNat (48+k)]:=by
 have key:((List.range 10).all fun k=>slice ([48,49,50,51,52,53,54,55,56,57]:List UInt8) k (k+1)==[UInt8.ofNat (48+k)])=true:=by kernel_rfl
 rw[List.all_eq_true] at key
 exact beq_iff_eq.1 (key k (List.mem_range.2 h))
theorem zpJ(n:Nat):Int.tmod ((n:Nat):Int) 10=((n % 10:Nat):Int):=rfl
theorem zpI(n:Nat):Int.tdiv ((n:Nat):Int) 10=((n/10:Nat):Int):=rfl
theorem zo2(N:Nat):∀ (f m n:Nat) (acc:List UInt8),n<10 ^ f->n<4294967296->0<f->f<=m->acc.length+f<=1000->∃ (x:Nat) (ys:List UInt8),zF N m ((n:Nat):Int) acc=some (((x:Nat):Int),ys)/\x<10/\UInt8.ofNat (48+x)::ys=zE f n++acc/\ys.length<=1000
 |0,m,n,acc,h,h',h0,hm,hl=>by omega
 |f+1,0,n,acc,h,h',h0,hm,hl=>by omega
 |f+1,m+1,n,acc,h,h',h0,hm,hl=>by
  unfold zF jG
  by_cases hn:n<10
  ·have c:decide ((10:Int)<=((n:Nat):Int))=false:=by simp;omega
   simp only[c,cond_false]
   exact⟨n,acc,rfl,hn,by unfold zE;rw[if_pos hn];rfl,by omega⟩
  ·have c:decide ((10:Int)<=((n:Nat):Int))=true:=by simp;omega
   have hk:n % 10<10:=by omega
   have hb:=kI (a:=n % 10) (b:=n % 10+1) (n:=10) (by omega) (by omega)
   simp (disch:=omega) only[c,cond_true,zpJ,zpI,zcs,ziY,hb,Int.toNat_natCast,zf3]
   have c2:decide (List.length [UInt8.ofNat (48+n % 10)]+List.length acc<4611686018427387904)=true:=by simp;omega
   simp only[c2,cond_true]
   have hpos:0<f:=by
    cases f with
    |zero=>simp at h;omega
    |succ f=>omega
   have hlt:n/10<10 ^ f:=by rw[Nat.pow_succ] at h;omega
   obtain⟨x,ys,q1,q2,q3,q4⟩:=zo2 N f m (n/10) ([UInt8.ofNat (48+n % 10)]++acc) hlt (by omega) hpos (by omega) (by simp;omega)
   exact⟨x,ys,q1,q2,by
                rw[q3];conv=>rhs;unfold zE;rw[if_neg hn]
                simp,q4⟩
theorem znj(N n:Nat)(hN:10<=N)(h:n<4294967296):qX N ((n:Nat):Int)=some (dec n,()):=by
 obtain⟨x,ys,q1,q2,q3,q4⟩:=zo2 N 10 N n [] (by omega) h (by omega) (by omega) (by simp)
 unfold qX
 have hb:=kI (a:=x) (b:=x+1) (n:=10) (by omega) (by omega)
 simp (disch:=omega) only[q1,Option.bind_some,zcs,ziY,hb,cond_true,Int.toNat_natCast,zf3]
 have c2:decide (List.length [UInt8.ofNat (48+x)]+List.length ys<4611686018427387904)=true:=by simp;omega
 rw[List.append_nil] at q3
 simp only[c2,cond_true,List.cons_append,List.nil_append,q3];rfl
def zhs:Nat->List UInt8->Option Nat
 |acc,[]=>some acc
 |acc,c::r=>if 48<=c.toNat/\c.toNat<=57 then zhs (acc*10+(c.toNat-48)) r else none
theorem zk9:∀ (l:List UInt8) (acc v:Nat),zhs acc l=some v->acc<=v
 | [],acc,v,h=>by cases h;omega
 |c::r,acc,v,h=>by
  unfold zhs at h
  split at h
  ·have:=zk9 r _ v h;omega
  ·cases h
theorem zla:∀ (l:List UInt8) (acc v k:Nat),zhs acc l=some v->acc<10 ^ k->v<10 ^ (k+l.length)
 | [],acc,v,k,h,hk=>by cases h;simpa using hk
 |c::r,acc,v,k,h,hk=>by
  unfold zhs at h
  split at h
  ·have:=zla r _ v (k+1) h (by rw[Nat.pow_succ];omega)
   rwa [List.length_cons,show k+(r.length+1)=k+1+r.length by omega]
  ·cases h
theorem znU(M:Nat)(hM:M<1844674407370955162):∀ (l:List UInt8) (acc v:Nat),acc<=M->zhs acc l=some v->v<=M->Go.Lib.parseUintM M acc l=.ok v
 | [],acc,v,ha,h,hv=>by cases h;rfl
 |c::r,acc,v,ha,h,hv=>by
  unfold zhs at h
  split at h
  ·rename_i hc
   have:=zk9 r _ v h
   unfold Go.Lib.parseUintM
   rw[if_pos hc,if_neg (by omega),if_neg (by omega)]
   exact znU M hM r _ v (by omega) h hv
  ·cases h
theorem zmQ(M:Nat):∀ (l:List UInt8) (acc v:Nat),acc<=M->Go.Lib.parseUintM M acc l=.ok v->zhs acc l=some v/\v<=M
 | [],acc,v,ha,h=>by cases h;exact⟨rfl,ha⟩
 |c::r,acc,v,ha,h=>by
  unfold Go.Lib.parseUintM at h
  split at h
  ·rename_i hc
   split at h
   ·cases h
   ·split at h
    ·cases h
    ·unfold zhs
     rw[if_pos hc]
     exact zmQ M r _ v (by omega) h
  ·cases h
def zcl(s:List UInt8):Option Nat:=match zhs 0 s with
 |some v=>if v<=4294967295/\dec v=s then some v else none
 |none=>none
def znO(s:List UInt8):Option (Int×Bool×Unit):=some (match zcl s with
 |some v=>(((v:Nat):Int),true,())
 |none=>(0,false,()))
theorem zj8{s:List UInt8}{v:Nat}(h:zcl s=some v):v<=4294967295:=by
 unfold zcl at h
 split at h
 ·split at h
  ·rename_i hc;cases h;exact hc.1
  ·cases h
 ·cases h
theorem zni(n:Nat):(dec n).length<=10:=zhE 10 n
theorem zlQ{s:List UInt8}{v:Nat}(h:zcl s=some v):s.length<=10:=by
 unfold zcl at h
 split at h
 ·split at h
  ·rename_i hc;rw[<- hc.2];exact zni _
  ·cases h
 ·cases h
theorem zlR(N:Nat)(hN:10<=N)(s:List UInt8)(hs:s.length<=100000):jM N s=znO s:=by
 unfold jM znO
 have hb:Nat.ble (List.length s) zii=true:=by rw[Nat.ble_eq];unfold zii;omega
 simp only[hb,cond_true]
 have bad:zcl s=none->some ((0:Int),false,())=some (match zcl s with
  |some v=>(((v:Nat):Int),true,())
  |none=>(0,false,())):=fun h=>by rw[h]
 rcases hp:Go.Lib.parseUintB 32 s with u|_|_
 ·unfold Go.Lib.parseUintB at hp
  split at hp
  ·cases hp
  ·obtain⟨h1,h2⟩:=zmQ _ s 0 u (by omega) hp
   have h2:u<=4294967295:=h2
   simp only[zkc]
   rw[ziY (by omega),zlt N u hN (by omega)]
   simp only[Option.bind_some]
   unfold zcl
   simp only[h1]
   cases hd:dec u != s with
   |true=>
    have hd':¬ dec u=s:=by simpa using hd
    rw[if_neg (fun h=>hd' h.2)];rfl
   |false=>
    have hd':dec u=s:=by simpa using hd
    rw[if_pos ⟨h2,hd'⟩];rfl
 ·refine bad ?_
  unfold zcl
  split
  ·rename_i v hv
   rw[if_neg]
   intro⟨h1,h2⟩
   unfold Go.Lib.parseUintB at hp
   split at hp
   ·rename_i he
    subst he
    have:(dec v).length=0:=by rw[h2];rfl
    unfold dec zE at this
    split at this<;>simp at this
   ·rw[znU _ (by decide) s 0 v (by omega) hv h1] at hp;cases hp
  ·rfl
 ·refine bad ?_
  unfold zcl
  split
  ·rename_i v hv
   rw[if_neg]
   intro⟨h1,h2⟩
   unfold Go.Lib.parseUintB at hp
   split at hp
   ·cases hp
   ·rw[znU _ (by decide) s 0 v (by omega) hv h1] at hp;cases hp
  ·rfl
theorem zrn(c:UInt8):decide (c<(48:UInt8))=decide (c.toNat<48):=by
 rw[decide_eq_decide];exact UInt8.lt_iff_toNat_lt
theorem zri(c:UInt8):decide ((57:UInt8)<c)=decide (57<c.toNat):=by
 rw[decide_eq_decide];exact UInt8.lt_iff_toNat_lt
theorem zqt{c:UInt8}(h:48<=c.toNat):(c-48).toNat=c.toNat-48:=by
 have:=c.toNat_lt
 rw[UInt8.toNat_sub]
 show(256-48+c.toNat) % 256=_
 omega
theorem zo5(N:Nat)(s:List UInt8)(hs:s.length<=10):∀ (m i v:Nat),i<=s.length->v<10 ^ i->s.length<m+i ->
  zL N m s ((v:Nat):Int) ((i:Nat):Int)=match zhs v (s.drop i) with
   |some w=>some (Sum.inr (s,((w:Nat):Int)))
   |none=>some (Sum.inl ())
 |0,i,v,h,hv,h'=>by omega
 |m+1,i,v,h,hv,h'=>by
  unfold zL j5
  by_cases hi:i<s.length
  ·simp only[zqK hi,cond_true,wY hi,Int.toNat_natCast,zg0 (u:=.u8) hi,zrn,zri,drop_one hi,zhs]
   have hlt:=s[i].toNat_lt
   by_cases h1:s[i].toNat<48
   ·simp only[decide_eq_true h1,cond_true]
    rw[if_neg (by omega)]
   ·simp only[decide_eq_false h1,cond_false]
    by_cases h2:57<s[i].toNat
    ·simp only[decide_eq_true h2,cond_true]
     rw[if_neg (by omega)]
    ·simp only[decide_eq_false h2,cond_false]
     rw[if_pos ⟨by omega,by omega⟩,zqt (by omega)]
     have hp:10 ^ i<=10 ^ 9:=Nat.pow_le_pow_right (by omega) (by omega)
     have hp2:(10:Nat) ^ (i+1)=10 ^ i*10:=Nat.pow_succ ..
     have e1:IntKind.wrap .u64 ((IntKind.wrap .u64 ((10:Int)*((v:Nat):Int)))+(IntKind.wrap .u64 (((s[i].toNat-48:Nat)):Int)))=((v*10+(s[i].toNat-48):Nat):Int):=by
      rw[show(10:Int)*((v:Nat):Int)=((10*v:Nat):Int) from rfl,zd3 (by omega),zd3 (n:=s[i].toNat-48) (by omega),show((10*v:Nat):Int)+((s[i].toNat-48:Nat):Int)=((10*v+(s[i].toNat-48):Nat):Int) from rfl,zd3 (by omega)]
      omega
     rw[e1,wri (by omega) (by omega),zcs]
     exact zo5 N s hs m (i+1) _ (by omega) (by omega) (by omega)
  ·simp only[zqJ hi,cond_false]
   rw[List.drop_eq_nil_of_le (by omega)]
   rfl
theorem znQ(N:Nat)(hN:20<=N)(s:List UInt8):jr N s=znO s:=by
 unfold jr znO
 by_cases hl:s.length<=10
 ·have c:decide ((10:Int)<((s.length:Nat):Int))=false:=by simp;omega
  have h:=zo5 N s hl N 0 0 (by omega) (by simp) (by omega)
  rw[show((0:Nat):Int)=(0:Int) from rfl,List.drop_zero] at h
  simp only[c,cond_false,h]
  unfold zcl
  cases hv:zhs 0 s with
  |none=>rfl
  |some v=>
   simp only[Option.bind_some,wQ]
   have hlt:=zla s 0 v 0 hv (by simp)
   have hp:10 ^ (0+s.length)<=10 ^ 10:=Nat.pow_le_pow_right (by omega) (by omega)
   by_cases h1:v<=4294967295
   ·have c1:decide ((4294967295:Int)<((v:Nat):Int))=false:=by simp;omega
    simp only[c1,cond_false]
    rw[ziY (by omega),znj N v (by omega) (by omega)]
    simp only[Option.bind_some]
    cases hd:dec v != s with
    |true=>
     have hd':¬ dec v=s:=by simpa using hd
     rw[if_neg (fun h=>hd' h.2)];rfl
    |false=>
     have hd':dec v=s:=by simpa using hd
     rw[if_pos ⟨h1,hd'⟩];rfl
   ·have c1:decide ((4294967295:Int)<((v:Nat):Int))=true:=by simp;omega
    simp only[c1,cond_true]
    rw[if_neg (fun h=>h1 h.1)]
 ·have c:decide ((10:Int)<((s.length:Nat):Int))=true:=by simp;omega
  simp only[c,cond_true]
  cases hv:zcl s with
  |none=>rfl
  |some v=>exact absurd (zlQ hv) hl
theorem zaA{α:Type}(l:List α)(a:Nat):zcC l a=l.drop a:=by
 unfold zcC;rw[Int.toNat_natCast];exact ziL
theorem zcy{α:Type}{a:Nat}{l:List α}(h:a<=l.length):zh2 ((a:Nat):Int) l=true:=kI h (Nat.le_refl _)
theorem zhD(N:Nat)(l:List UInt8)(h:l.length<=100000):zw N l=some (l,()):=by
 unfold zw
 rw[ze2 (by omega)];rfl
theorem qM{α:Type}{l:List α}{a b:Nat}:(slice l a b).length<=l.length:=by
 unfold slice;rw[List.length_take,List.length_drop];omega
def za8:List UInt8->Option Nat
 | []=>none
 |a::r=>if a=13/\r.head?=some 10 then some 0 else(za8 r).map (· + 1)
theorem zgu:∀ {l:List UInt8} {e:Nat},za8 l=some e->e+1<l.length
 | [],e,h=>by cases h
 |a::r,e,h=>by
  unfold za8 at h
  split at h
  ·rename_i hc
   cases h
   cases r with
   |nil=>simp at hc
   |cons c r=>simp
  ·cases hr:za8 r with
   |none=>rw[hr] at h;cases h
   |some k=>
    rw[hr] at h
    have:=zgu hr
    cases h
    simp;omega
theorem zfk:∀ (l:List UInt8),Go.Lib.index l [13,10]=match za8 l with|some e=>(e:Int)|none=>-1
 | []=>rfl
 |a::r=>by
  unfold Go.Lib.index za8
  have ih:=zfk r
  have hp:([13,10]:List UInt8).isPrefixOf (a::r)=decide (a=13/\r.head?=some 10):=by
   cases r with
   |nil=>simp [List.isPrefixOf]
   |cons c r=>
    simp only[List.isPrefixOf,Bool.and_true,List.head?_cons,Option.some.injEq]
    by_cases h1:a=13
    ·by_cases h2:c=10
     ·subst h1;subst h2;rfl
     ·subst h1;simp [h2,beq_eq_false_iff_ne,Ne.symm h2]
    ·simp [h1,Ne.symm h1]
  rw[hp]
  by_cases hc:a=13/\r.head?=some 10
  ·simp [hc]
  ·rw[decide_eq_false hc,if_neg hc,if_neg (by simp),ih]
   cases za8 r with
   |none=>rfl
   |some k=>
    simp only[Option.map_some]
    have:((k:Int) == -1)=false:=by simp
    rw[this];simp
theorem zmB(N:Nat){b:List UInt8}(hb:b.length<=1000000):∀ (m i:Nat),i<=b.length->b.length<m+i->qe N m b (i:Int)=some (match za8 (b.drop i) with|some e=>.inl ((i+e:Nat):Int)|none=>.inr ())
 |0,i,h,h'=>by omega
 |m+1,i,h,h'=>by
  unfold qe kF
  rw[wri (by omega) (by omega),show((i:Int)+1)=((i+1:Nat):Int) by omega]
  by_cases h1:i+1<b.length
  ·have h0:i<b.length:=by omega
   rw[zqK h1,cond_true,wY h0,cond_true]
   simp only[Int.toNat_natCast,zg0 (u:=.u8) h0,zg0 (u:=.u8) h1,wY h1,cond_true]
   rw[drop_one h0]
   have ih:=zmB N hb m (i+1) (by omega) (by omega)
   have hh:(b.drop (i+1)).head?=some b[i+1]:=by rw[List.head?_drop,List.getElem?_eq_getElem h1]
   unfold za8
   rw[hh]
   by_cases c1:b[i]=13
   ·by_cases c2:b[i+1]=10
    ·simp [c1,c2]
    ·rw[if_neg (by simp [c2]),ih]
     simp only[c1,beq_self_eq_true,cond_true,beq_eq_false_iff_ne.2 c2,cond_false]
     cases za8 (b.drop (i+1)) with
     |none=>rfl
     |some e=>simp only[Option.map_some];congr 3;omega
   ·rw[if_neg (by simp [c1]),ih]
    simp only[beq_eq_false_iff_ne.2 c1,cond_false]
    cases za8 (b.drop (i+1)) with
    |none=>rfl
    |some e=>simp only[Option.map_some];congr 3;omega
  ·rw[zqJ h1,cond_false]
   have:za8 (b.drop i)=none:=by
    cases he:za8 (b.drop i) with
    |none=>rfl
    |some e=>have:=zgu he;rw[List.length_drop] at this;omega
   rw[this]
theorem znm(N:Nat){b:List UInt8}(hb:b.length<=1000000)(hN:b.length<N){i:Nat}(hi:i<=b.length):ke N b (i:Int)=some (match za8 (b.drop i) with|some e=>((i+e:Nat):Int)|none=>-1,()):=by
 unfold ke
 rw[zmB N hb N i hi (by omega),Option.bind_some]
 cases za8 (b.drop i)<;>rfl
end Go.Proofs.Model
