/- Machines and laws 5. -/
import Derived.Test.YtifkhebojenhnabGreatDoorB4
import Derived.Test.YtifkhebojenhnabGreatDoorB3
import Derived.ChangeArms
import Derived.ReadAgain
import Derived.ChangeSame
import Derived.Deep.DeepHandedRow
import Derived.Test.YtifkhebojenhnabGreatDoorB1
import Derived.KernelRfl
import Derived.Shelf.Strings.OnBuilder
import Derived.Shelf.Strings.Split
import Derived.Shelf.Bytes.SlIndexWhole
import Derived.Shelf.Pu.ParseUintPublic10
import Derived.Shelf.Strings.Repeat
set_option linter.unusedVariables false
set_option linter.unusedSectionVars false
set_option linter.unusedSimpArgs false
namespace Go.Sx
open Go Go.Gx Go.Mx
variable [z6]
inductive Lf where
 |b (x:Bool)|i (x:Int)|c (x:UInt8)|s (x:List UInt8)|n (x:Nat)
 |l (u:U) (x:List (El u))|e (u:U) (x:El u)
inductive PV where
 |drop|bool|int (k:IntKind)|u8|str|cst (v:AV)
 |isl (u:U)|zaB (u:U) (fo:Nat)|ptr (loc off lim:Nat)|zaV (g off lim:Nat)|gs (loc n:Nat)|zex (loc n len:Nat)|sl (loc n:Nat) (c:Bool)|zbq (loc n fo:Nat)|map (loc:Nat)
 |fn (f:FuncId) (a b:List PV)|ifc (t:TypeId) (p:PV)|agg (l:List PV)|tup (l:List PV)|yld (loc:Nat)
 deriving Inhabited
inductive PB where
 |cells (l:List PV) (md:Nat) (mk:Option TypeId:=none)|seq (u:U) (n md:Nat) (fx:Bool)|map (ks vs:List PV) (md:Nat)|kv (u v:U) (md:Nat)|loop (env:List PV) (id md:Nat)|gone
 deriving Inhabited
def zjw(ph:List PB)(h:SH)(loc n k:Nat):Bool:=match ph[loc]?,h[loc]? with
 |some (.seq _ n' _ _),some (.seq _ _ m _)=>Nat.beq n' n&&Nat.beq m k
 |_,_=>false
mutual
def mV(ph:List PB)(h:SH):PV->SV->Option (List Lf)
 |.drop,_=>some []
 |.bool,.a (.bool b)=>some [.b b]
 |.int k,.a (.int k' n)=>if k=k' then some [.i n] else none
 |.u8,.u8 b=>some [.c b]
 |.str,.a (.str l)=>some [.s l]
 |.cst v,.a w=>match AV.beq v w with
  |true=>some []
  |false=>none
 |.isl u,.isl u' l=>match qB u' u l with
  |some l=>some [.l u l]
  |none=>none
 |.zaB u fo,.zaB u' x fo'=>if q:u'=u then(match Nat.beq fo fo' with|true=>some [.e u (q ▸ x)]|false=>none) else none
 |.ptr loc off lim,.ptr loc' off' lim'=>match Nat.beq loc loc'&&Nat.beq off off'&&Nat.beq lim lim'&&Nat.blt loc ph.length with
  |true=>some []
  |false=>none
 |.zaV g off lim,.zaV g' off' lim'=>match Nat.beq g g'&&Nat.beq off off'&&Nat.beq lim lim' with
  |true=>some []
  |false=>none
 |.gs loc n,.gs loc' k=>match Nat.beq loc loc'&&zjw ph h loc n k with
  |true=>some []
  |false=>none
 |.zex loc n len,.zex loc' k len'=>match Nat.beq loc loc'&&zjw ph h loc n k&&Nat.beq len len' with
  |true=>some []
  |false=>none
 |.sl loc n c,.sl loc' k off len c'=>match Nat.beq loc loc'&&zjw ph h loc n k&&c==c' with
  |true=>some [.n off,.n len]
  |false=>none
 |.zbq loc n fo,.zbq loc' k i fo'=>match Nat.beq loc loc'&&zjw ph h loc n k&&Nat.beq fo fo' with
  |true=>some [.n i]
  |false=>none
 |.map loc,.map loc'=>match Nat.beq loc loc'&&Nat.blt loc ph.length with
  |true=>some []
  |false=>none
 |.yld loc,.yld loc'=>match Nat.beq loc loc'&&Nat.blt loc ph.length with
  |true=>some []
  |false=>none
 |.fn f a b,.fn f' a' b'=>match Nat.beq f f',mVs ph h a a',mVs ph h b b' with
  |true,some x,some y=>some (x++y)
  |_,_,_=>none
 |.ifc t p,.ifc t' v=>match Nat.beq t t' with
  |true=>mV ph h p v
  |false=>none
 |.agg l,.agg l'=>mVs ph h l l'
 |.tup l,.tup l'=>mVs ph h l l'
 |_,_=>none
def mVs(ph:List PB)(h:SH):List PV->List SV->Option (List Lf)
 | [],[]=>some []
 |p::l,v::r=>match mV ph h p v,mVs ph h l r with
  |some x,some y=>some (x++y)
  |_,_=>none
 |_,_=>none
end
mutual
def iV:PV->List Lf->SV×List Lf
 |.bool,.b x::r=>(.a (.bool x),r)
 |.int k,.i x::r=>(.a (.int k x),r)
 |.u8,.c x::r=>(.u8 x,r)
 |.str,.s x::r=>(.a (.str x),r)
 |.cst v,r=>(.a v,r)
 |.isl u,.l u' x::r=>(.isl u' x,r)
 |.zaB u fo,.e u' x::r=>(.zaB u' x fo,r)
 |.ptr loc off lim,r=>(.ptr loc off lim,r)
 |.zaV loc off lim,r=>(.zaV loc off lim,r)
 |.gs loc n,r=>(.gs loc n,r)
 |.zex loc n len,r=>(.zex loc n len,r)
 |.sl loc n c,.n off::.n len::r=>(.sl loc n off len c,r)
 |.zbq loc n fo,.n i::r=>(.zbq loc n i fo,r)
 |.map loc,r=>(.map loc,r)
 |.yld loc,r=>(.yld loc,r)
 |.fn f a b,r=>(.fn f (iVs a r).1 (iVs b (iVs a r).2).1,(iVs b (iVs a r).2).2)
 |.ifc t p,r=>(.ifc t (iV p r).1,(iV p r).2)
 |.agg l,r=>(.agg (iVs l r).1,(iVs l r).2)
 |.tup l,r=>(.tup (iVs l r).1,(iVs l r).2)
 |_,r=>(.top,r)
def iVs:List PV->List Lf->List SV×List Lf
 | [],r=>([],r)
 |p::l,r=>((iV p r).1::(iVs l (iV p r).2).1,(iVs l (iV p r).2).2)
end
structure Mt(ph:List PB)(X Z:Gst):Prop where
 h:Z.h=X.h
 Φ:Z.Φ=X.Φ
 at_:∀ loc m,X.at loc m->loc<ph.length->Z.at loc m
 row:∀ (loc:Nat) (u:U) (n md:Nat) (fx:Bool) (u':U) (l:List (El u')) (k md':Nat),ph[loc]?=some (.seq u n md fx)->X.sh[loc]?=some (.seq u' l k md')->Z.sh[loc]?=some (.seq u' l n md')/\Z.σ[loc]?=X.σ[loc]?
theorem Mt.cur{ph:List PB}{X Z:Gst}(hM:Mt ph X Z){loc n k:Nat}(hr:zjw ph X.sh loc n k=true){Q:(u:U)->Nat->Option (Nat×Nat)->Prop}(q:X.cur loc k Q):Z.cur loc n Q:=by
 unfold zjw at hr
 split at hr
 ·rename_i u n' md fx u' l m md' hp hb
  simp only[Bool.and_eq_true] at hr
  have h1:=za hr.1
  have h2:=za hr.2
  subst h1;subst h2
  obtain⟨o,ho,hc⟩:=q
  obtain⟨h3,h4⟩:=hM.row loc u n' md fx u' l m md' hp hb
  refine⟨o,h4.trans ho,fun u2 l2 k2 md2 hb2=>?_⟩
  rw[h3] at hb2;cases hb2
  exact⟨Nat.le_refl _,fun _=>(hc _ _ _ _ hb).2 rfl⟩
 ·cases hr
mutual
theorem zei{ph:List PB}{X Z:Gst}(hM:Mt ph X Z):∀ (p:PV) {v:SV} {ls:List Lf} {x:AV},mV ph X.sh p v=some ls->RV X v x->∀ r,∃ w,iV p (ls++r)=(w,r)/\RV Z w x
 |.drop,v,ls,x,h,hv,r=>by simp [mV] at h;subst h;exact⟨.top,rfl,trivial⟩
 |.bool,v,ls,x,h,hv,r=>by
  cases v<;>first|(simp [mV] at h;done)|skip
  rename_i w;cases w<;>first|(simp [mV] at h;done)|skip
  simp [mV] at h;subst h;exact⟨_,rfl,hv⟩
 |.int k,v,ls,x,h,hv,r=>by
  cases v<;>first|(simp [mV] at h;done)|skip
  rename_i w;cases w<;>first|(simp [mV] at h;done)|skip
  simp [mV] at h;obtain⟨rfl,rfl⟩:=h;exact⟨_,rfl,hv⟩
 |.u8,v,ls,x,h,hv,r=>by
  cases v<;>first|(simp [mV] at h;done)|skip
  simp [mV] at h;subst h;exact⟨_,rfl,hv⟩
 |.str,v,ls,x,h,hv,r=>by
  cases v<;>first|(simp [mV] at h;done)|skip
  rename_i w;cases w<;>first|(simp [mV] at h;done)|skip
  simp [mV] at h;subst h;exact⟨_,rfl,hv⟩
 |.cst c,v,ls,x,h,hv,r=>by
  cases v<;>first|(simp [mV] at h;done)|skip
  simp only[mV] at h
  split at h
  ·rename_i hb;cases h;exact⟨_,rfl,by rw[AV.beq_eq _ _ hb];exact hv⟩
  ·cases h
 |.isl u,v,ls,x,h,hv,r=>by
  cases v<;>first|(simp [mV] at h;done)|skip
  simp only[mV] at h
  split at h
  ·rename_i l hc
   obtain⟨e1,e2⟩:=zq hc
   subst e1;cases e2;cases h
   exact⟨_,rfl,by show RSl Z.h Z.Φ _ _ _ _;rw[hM.h,hM.Φ];exact hv⟩
  ·cases h
 |.zaB u fo,v,ls,x,h,hv,r=>by
  cases v<;>first|(simp [mV] at h;done)|skip
  simp only[mV] at h
  split at h
  ·rename_i hq
   subst hq
   split at h
   ·rename_i hfo
    have hfo:=za hfo
    subst hfo
    cases h
    obtain⟨m,off,ver,lim,cs,h1,h2,h3,h4,h5,h6⟩:=hv
    exact⟨_,rfl,m,off,ver,lim,cs,h1,by rw[hM.Φ];exact h2,h3,by rw[hM.h];exact h4,h5,by rw[hM.h,hM.Φ];exact h6⟩
   ·cases h
  ·cases h
 |.ptr loc off lim,v,ls,x,h,hv,r=>by
  cases v<;>first|(simp [mV] at h;done)|skip
  simp only[mV] at h
  split at h
  ·rename_i hb
   simp only[Bool.and_eq_true] at hb
   obtain⟨⟨⟨h1,h2⟩,h3⟩,h4⟩:=hb
   have h1:=za h1;have h2:=za h2;have h3:=za h3
   subst h1;subst h2;subst h3;cases h
   obtain⟨m,q1,q2⟩:=hv
   exact⟨_,rfl,m,hM.at_ _ _ q1 (zH h4),q2⟩
  ·cases h
 |.zaV g off lim,v,ls,x,h,hv,r=>by
  cases v<;>first|(simp [mV] at h;done)|skip
  simp only[mV] at h
  split at h
  ·rename_i hb
   simp only[Bool.and_eq_true] at hb
   obtain⟨⟨h1,h2⟩,h3⟩:=hb
   have h1:=za h1;have h2:=za h2;have h3:=za h3
   subst h1;subst h2;subst h3;cases h
   exact⟨_,rfl,hv⟩
  ·cases h
 |.zex loc n len,v,ls,x,h,hv,r=>by
  cases v<;>first|(simp [mV] at h;done)|skip
  simp only[mV] at h
  split at h
  ·rename_i hb
   simp only[Bool.and_eq_true] at hb
   obtain⟨⟨h1,h2⟩,h3⟩:=hb
   have h1:=za h1;have h3:=za h3
   subst h1;subst h3;cases h
   exact⟨_,rfl,hv.1,hM.cur h2 hv.2⟩
  ·cases h
 |.gs loc n,v,ls,x,h,hv,r=>by
  cases v<;>first|(simp [mV] at h;done)|skip
  simp only[mV] at h
  split at h
  ·rename_i hb
   simp only[Bool.and_eq_true] at hb
   have h1:=za hb.1
   subst h1;cases h
   exact⟨_,rfl,hv.1,hM.cur hb.2 hv.2⟩
  ·cases h
 |.sl loc n c,v,ls,x,h,hv,r=>by
  cases v<;>first|(simp [mV] at h;done)|skip
  simp only[mV] at h
  split at h
  ·rename_i hb
   simp only[Bool.and_eq_true,beq_iff_eq] at hb
   obtain⟨⟨h1,h2⟩,rfl⟩:=hb
   have h1:=za h1
   subst h1;cases h
   exact⟨_,rfl,hv.1,hM.cur h2 hv.2⟩
  ·cases h
 |.zbq loc n fo,v,ls,x,h,hv,r=>by
  cases v<;>first|(simp [mV] at h;done)|skip
  simp only[mV] at h
  split at h
  ·rename_i hb
   simp only[Bool.and_eq_true] at hb
   obtain⟨⟨h1,h2⟩,h3⟩:=hb
   have h1:=za h1;have h3:=za h3
   subst h1;subst h3;cases h
   exact⟨_,rfl,hv.1,hM.cur h2 hv.2⟩
  ·cases h
 |.map loc,v,ls,x,h,hv,r=>by
  cases v<;>first|(simp [mV] at h;done)|skip
  simp only[mV] at h
  split at h
  ·rename_i hb
   simp only[Bool.and_eq_true] at hb
   have h1:=za hb.1
   subst h1;cases h
   obtain⟨m,q1,q2⟩:=hv
   exact⟨_,rfl,m,hM.at_ _ _ q1 (zH hb.2),q2⟩
  ·cases h
 |.yld loc,v,ls,x,h,hv,r=>by
  cases v<;>first|(simp [mV] at h;done)|skip
  simp only[mV] at h
  split at h
  ·rename_i hb
   simp only[Bool.and_eq_true] at hb
   have h1:=za hb.1
   subst h1;cases h
   obtain⟨m,q1,q2⟩:=hv
   exact⟨_,rfl,m,hM.at_ _ _ q1 (zH hb.2),q2⟩
  ·cases h
 |.fn f a b,v,ls,x,h,hv,r=>by
  cases v<;>first|(simp [mV] at h;done)|skip
  simp only[mV] at h
  split at h
  ·rename_i l1 l2 hf h1 h2
   have hf:=za hf
   subst hf;cases h
   obtain⟨a',b',rfl,q1,q2⟩:=hv
   obtain⟨wa,e1,q3⟩:=zT hM a h1 q1 (l2++r)
   obtain⟨wb,e2,q4⟩:=zT hM b h2 q2 r
   refine⟨.fn f wa wb,?_,a',b',rfl,q3,q4⟩
   simp only[iV,List.append_assoc,e1,e2]
  ·cases h
 |.ifc t p,v,ls,x,h,hv,r=>by
  cases v<;>first|(simp [mV] at h;done)|skip
  simp only[mV] at h
  split at h
  ·rename_i ht
   have ht:=za ht
   subst ht
   obtain⟨y,rfl,q1⟩:=hv
   obtain⟨w,e1,q2⟩:=zei hM p h q1 r
   exact⟨.ifc t w,by simp only[iV,e1],y,rfl,q2⟩
  ·cases h
 |.agg l,v,ls,x,h,hv,r=>by
  cases v<;>first|(simp [mV] at h;done)|skip
  simp only[mV] at h
  obtain⟨y,rfl,q1⟩:=hv
  obtain⟨w,e1,q2⟩:=zT hM l h q1 r
  exact⟨.agg w,by simp only[iV,e1],y,rfl,q2⟩
 |.tup l,v,ls,x,h,hv,r=>by
  cases v<;>first|(simp [mV] at h;done)|skip
  simp only[mV] at h
  obtain⟨y,rfl,q1⟩:=hv
  obtain⟨w,e1,q2⟩:=zT hM l h q1 r
  exact⟨.tup w,by simp only[iV,e1],y,rfl,q2⟩
theorem zT{ph:List PB}{X Z:Gst}(hM:Mt ph X Z):∀ (p:List PV) {v:List SV} {ls:List Lf} {x:List AV},mVs ph X.sh p v=some ls->RVs X v x->∀ r,∃ w,iVs p (ls++r)=(w,r)/\RVs Z w x
 | [],v,ls,x,h,hv,r=>by
  cases v with
  |nil=>simp [mVs] at h;subst h;exact⟨[],rfl,hv⟩
  |cons=>simp [mVs] at h
 |p::l,v,ls,x,h,hv,r=>by
  cases v with
  |nil=>simp [mVs] at h
  |cons v vs=>
   simp only[mVs] at h
   split at h
   ·rename_i l1 l2 h1 h2
    cases h
    obtain⟨y,ys,rfl,q1,q2⟩:=hv
    obtain⟨wa,e1,q3⟩:=zei hM p h1 q1 (l2++r)
    obtain⟨wb,e2,q4⟩:=zT hM l h2 q2 r
    refine⟨wa::wb,?_,y,ys,rfl,q3,q4⟩
    simp only[iVs,List.append_assoc,e1,e2]
   ·cases h
end
end Go.Sx
namespace Go.Sx
open Go Go.Gx Go.Mx
variable [z6]
mutual
theorem zjR{ph:List PB}{h0:SH}:∀ (p:PV) {v:SV} {ls:List Lf},mV ph h0 p v=some ls->∀ r,∃ w,iV p (ls++r)=(w,r)
 |.drop,v,ls,h,r=>by simp [mV] at h;subst h;exact⟨_,rfl⟩
 |.bool,v,ls,h,r=>by
  cases v<;>first|(simp [mV] at h;done)|skip
  rename_i w;cases w<;>first|(simp [mV] at h;done)|skip
  simp [mV] at h;subst h;exact⟨_,rfl⟩
 |.int k,v,ls,h,r=>by
  cases v<;>first|(simp [mV] at h;done)|skip
  rename_i w;cases w<;>first|(simp [mV] at h;done)|skip
  simp [mV] at h;obtain⟨rfl,rfl⟩:=h;exact⟨_,rfl⟩
 |.u8,v,ls,h,r=>by
  cases v<;>first|(simp [mV] at h;done)|skip
  simp [mV] at h;subst h;exact⟨_,rfl⟩
 |.str,v,ls,h,r=>by
  cases v<;>first|(simp [mV] at h;done)|skip
  rename_i w;cases w<;>first|(simp [mV] at h;done)|skip
  simp [mV] at h;subst h;exact⟨_,rfl⟩
 |.cst c,v,ls,h,r=>by
  cases v<;>first|(simp [mV] at h;done)|skip
  simp only[mV] at h
  split at h
  ·cases h;exact⟨_,rfl⟩
  ·cases h
 |.isl u,v,ls,h,r=>by
  cases v<;>first|(simp [mV] at h;done)|skip
  simp only[mV] at h
  split at h
  ·cases h;exact⟨_,rfl⟩
  ·cases h
 |.ptr loc off lim,v,ls,h,r=>by
  cases v<;>first|(simp [mV] at h;done)|skip
  simp only[mV] at h
  split at h
  ·cases h;exact⟨_,rfl⟩
  ·cases h
 |.zaV g off lim,v,ls,h,r=>by
  cases v<;>first|(simp [mV] at h;done)|skip
  simp only[mV] at h
  split at h
  ·cases h;exact⟨_,rfl⟩
  ·cases h
 |.zex loc n len,v,ls,h,r=>by
  cases v<;>first|(simp [mV] at h;done)|skip
  simp only[mV] at h
  split at h
  ·cases h;exact⟨_,rfl⟩
  ·cases h
 |.gs loc n,v,ls,h,r=>by
  cases v<;>first|(simp [mV] at h;done)|skip
  simp only[mV] at h
  split at h
  ·cases h;exact⟨_,rfl⟩
  ·cases h
 |.sl loc n c,v,ls,h,r=>by
  cases v<;>first|(simp [mV] at h;done)|skip
  simp only[mV] at h
  split at h
  ·cases h;exact⟨_,rfl⟩
  ·cases h
 |.zbq loc n fo,v,ls,h,r=>by
  cases v<;>first|(simp [mV] at h;done)|skip
  simp only[mV] at h
  split at h
  ·cases h;exact⟨_,rfl⟩
  ·cases h
 |.map loc,v,ls,h,r=>by
  cases v<;>first|(simp [mV] at h;done)|skip
  simp only[mV] at h
  split at h
  ·cases h;exact⟨_,rfl⟩
  ·cases h
 |.yld loc,v,ls,h,r=>by
  cases v<;>first|(simp [mV] at h;done)|skip
  simp only[mV] at h
  split at h
  ·cases h;exact⟨_,rfl⟩
  ·cases h
 |.zaB u fo,v,ls,h,r=>by
  cases v<;>first|(simp [mV] at h;done)|skip
  simp only[mV] at h
  split at h
  ·split at h
   ·cases h;exact⟨_,rfl⟩
   ·cases h
  ·cases h
 |.fn f a b,v,ls,h,r=>by
  cases v<;>first|(simp [mV] at h;done)|skip
  simp only[mV] at h
  split at h
  ·rename_i l1 l2 hf h1 h2
   cases h
   obtain⟨wa,e1⟩:=j2 a h1 (l2++r)
   obtain⟨wb,e2⟩:=j2 b h2 r
   exact⟨.fn f wa wb,by simp only[iV,List.append_assoc,e1,e2]⟩
  ·cases h
 |.ifc t p,v,ls,h,r=>by
  cases v<;>first|(simp [mV] at h;done)|skip
  simp only[mV] at h
  split at h
  ·obtain⟨w,e1⟩:=zjR p h r
   exact⟨.ifc t w,by simp only[iV,e1]⟩
  ·cases h
 |.agg l,v,ls,h,r=>by
  cases v<;>first|(simp [mV] at h;done)|skip
  simp only[mV] at h
  obtain⟨w,e1⟩:=j2 l h r
  exact⟨.agg w,by simp only[iV,e1]⟩
 |.tup l,v,ls,h,r=>by
  cases v<;>first|(simp [mV] at h;done)|skip
  simp only[mV] at h
  obtain⟨w,e1⟩:=j2 l h r
  exact⟨.tup w,by simp only[iV,e1]⟩
theorem j2{ph:List PB}{h0:SH}:∀ (p:List PV) {v:List SV} {ls:List Lf},mVs ph h0 p v=some ls->∀ r,∃ w,iVs p (ls++r)=(w,r)
 | [],v,ls,h,r=>by
  cases v with
  |nil=>simp [mVs] at h;subst h;exact⟨[],rfl⟩
  |cons=>simp [mVs] at h
 |p::l,v,ls,h,r=>by
  cases v with
  |nil=>simp [mVs] at h
  |cons v vs=>
   simp only[mVs] at h
   split at h
   ·rename_i l1 l2 h1 h2
    cases h
    obtain⟨wa,e1⟩:=zjR p h1 (l2++r)
    obtain⟨wb,e2⟩:=j2 l h2 r
    exact⟨wa::wb,by simp only[iVs,List.append_assoc,e1,e2]⟩
   ·cases h
end
theorem zfw{X Z:Gst}(hh:Z.h=X.h)(hΦ:Z.Φ=X.Φ):∀ (u:U) (x:El u) {ys:List AV},RVs X (enc u x) ys->RVs Z (enc u x) ys
 |.bool,_,_,q=>q
 |.int _,_,_,q=>q
 |.u8,_,_,q=>q
 |.str,_,_,q=>q
 |.sl u,l,_,⟨y,ys,e,q1,q2⟩=>⟨y,ys,e,by show RSl Z.h Z.Φ false u l y;rw[hh,hΦ];exact q1,q2⟩
 |.pair u v,x,_,q=>by
  rename_i ys
  have h1:=q.take (enc u x.1).length
  have h2:=q.drop (enc u x.1).length
  rw[show enc (.pair u v) x=enc u x.1++enc v x.2 from rfl] at h1 h2
  rw[List.take_left] at h1
  rw[List.drop_left] at h2
  have:=(zfw hh hΦ u x.1 h1).append (zfw hh hΦ v x.2 h2)
  rwa [List.take_append_drop] at this
 |.unit,_,_,q=>q
theorem zjr{X Z:Gst}(hh:Z.h=X.h)(hΦ:Z.Φ=X.Φ):∀ (u:U) (x:El u) {y:AV},RV X (zc6 u x) y->RV Z (zc6 u x) y
 |.bool,_,_,q=>q
 |.int _,_,_,q=>q
 |.u8,_,_,q=>q
 |.str,_,_,q=>q
 |.sl u,l,y,q=>by show RSl Z.h Z.Φ false u l y;rw[hh,hΦ];exact q
 |.pair u v,x,_,⟨ys,e,q⟩=>⟨ys,e,zfw hh hΦ (.pair u v) x q⟩
 |.unit,_,_,q=>q
theorem ziN{α:Type}{X Z:Gst}(hh:Z.h=X.h)(hΦ:Z.Φ=X.Φ)(u:U)(f:α->El u):∀ (l:List α) {ys:List AV},RVs X (l.map fun p=>zc6 u (f p)) ys->RVs Z (l.map fun p=>zc6 u (f p)) ys
 | [],_,q=>q
 |p::l,_,⟨y,ys,e,q1,q2⟩=>⟨y,ys,e,zjr hh hΦ u _ q1,ziN hh hΦ u f l q2⟩
def mB(ph:List PB)(h:SH):PB->SB->Option (List Lf)
 |.cells l md mk,.cells l' md' mk'=>match Nat.beq md md'&&mkB mk mk' with
  |true=>mVs ph h l l'
  |false=>none
 |.loop pe id md,.loop e id' md'=>match Nat.beq md md'&&Nat.beq id id' with
  |true=>mVs ph h pe e
  |false=>none
 |.seq u n md fx,.seq u' l k md'=>match Nat.beq md md'&&((!fx||Nat.beq k n)&&mkB (mkS n) (mkS k)),qB u' u l with
  |true,some l=>some [.l u l]
  |_,_=>none
 |.map ks vs md,.map ks' vs' md'=>match Nat.beq md md',mVs ph h ks ks',mVs ph h vs vs' with
  |true,some a,some b=>some (a++b)
  |_,_,_=>none
 |.kv u v md,b=>match b with
  |.kv u' v' l md'=>match Nat.beq md md',qB (.pair u' v') (.pair u v) l with
   |true,some l=>some [.l (.pair u v) l]
   |_,_=>none
  |.map ks vs md'=>match Nat.beq md md',ks,vs with
   |true,[],[]=>some [.l (.pair u v) []]
   |_,_,_=>none
  |_=>none
 |.gone,_=>some []
 |_,_=>none
def mBs(ph:List PB)(h:SH):List PB->List SB->Option (List Lf)
 | [],_=>some []
 |p::l,b::r=>match mB ph h p b,mBs ph h l r with
  |some x,some y=>some (x++y)
  |_,_=>none
 |_,_=>none
def iB:PB->List Lf->SB×List Lf
 |.cells l md mk,r=>(.cells (iVs l r).1 md mk,(iVs l r).2)
 |.seq u n md fx,.l u' x::r=>(.seq u' x n md,r)
 |.map ks vs md,r=>(.map (iVs ks r).1 (iVs vs (iVs ks r).2).1 md,(iVs vs (iVs ks r).2).2)
 |.kv u v md,.l (.pair u' v') x::r=>(.kv u' v' x md,r)
 |.loop pe id md,r=>(.loop (iVs pe r).1 id md,(iVs pe r).2)
 |_,r=>(.gone,r)
def iBs:List PB->List Lf->List SB×List Lf
 | [],r=>([],r)
 |p::l,r=>((iB p r).1::(iBs l (iB p r).2).1,(iBs l (iB p r).2).2)
structure PS where
 env:List PV
 h:List PB
def mS(p:PS)(st:SS):Option (List Lf):=match mVs p.h st.h p.env st.env,mBs p.h st.h p.h st.h with
 |some x,some y=>some (x++y)
 |_,_=>none
def iS(p:PS)(ls:List Lf):SS:=⟨(iVs p.env ls).1,(iBs p.h (iVs p.env ls).2).1⟩
def Lk(pb:PB)(b b':SB):Prop:=(pb=.gone/\b'=.gone) \/
 (∃ l l' md mk mk',mkB mk mk'=true/\b=.cells l md mk'/\b'=.cells l' md mk/\∃ pl,pb=.cells pl md mk)\/(∃ u l k n md,b=.seq u l k md/\b'=.seq u l n md/\∃ fx,pb=.seq u n md fx/\(fx=true->k=n)/\mkB (mkS n) (mkS k)=true)\/(∃ ks vs ks' vs' md,b=.map ks vs md/\b'=.map ks' vs' md/\∃ pk pv,pb=.map pk pv md)\/(∃ u v l md,((∃ l',b=.kv u v l' md)\/b=.map [] [] md)/\b'=.kv u v l md/\pb=.kv u v md)\/(∃ e e' id md,b=.loop e id md/\b'=.loop e' id md/\∃ pe,pb=.loop pe id md)
theorem zjQ{ph:List PB}{h0:SH}{p:PB}{b:SB}{ls:List Lf}(h:mB ph h0 p b=some ls)(r:List Lf):∃ w,iB p (ls++r)=(w,r)/\Lk p b w:=by
 unfold mB at h
 split at h
 ·split at h
  ·rename_i l md mk l' md' mk' _ hb
   simp only[Bool.and_eq_true] at hb
   obtain⟨hb,hmk⟩:=hb
   have hb:=za hb
   subst hb
   obtain⟨w,e⟩:=j2 _ h r
   exact⟨.cells w md mk,by simp only[iB,e],.inr (.inl ⟨_,_,_,_,_,hmk,rfl,rfl,_,rfl⟩)⟩
  ·cases h
 ·split at h
  ·rename_i pe id md e id' md' _ hb
   simp only[Bool.and_eq_true] at hb
   cases za hb.1;cases za hb.2
   obtain⟨w,e⟩:=j2 _ h r
   exact⟨.loop w id md,by simp only[iB,e],.inr (.inr (.inr (.inr (.inr ⟨_,_,_,_,rfl,rfl,_,rfl⟩))))⟩
  ·cases h
 ·split at h
  ·rename_i u n md fx u' l k md' _ _ l2 hb hc
   simp only[Bool.and_eq_true,Bool.or_eq_true,Bool.not_eq_true'] at hb
   obtain⟨hb,hfx,hmk⟩:=hb
   have hb:=za hb
   subst hb
   obtain⟨e1,e2⟩:=zq hc
   subst e1;cases e2;cases h
   exact⟨.seq u' l n md,rfl,.inr (.inr (.inl ⟨_,_,_,_,_,rfl,rfl,_,rfl,fun e=>hfx.elim (fun h=>by rw[e] at h;cases h) za,hmk⟩))⟩
  ·cases h
 ·split at h
  ·rename_i ks vs md ks' vs' md' _ _ _ a b' hb h1 h2
   have hb:=za hb
   subst hb
   cases h
   obtain⟨w1,e1⟩:=j2 _ h1 (b'++r)
   obtain⟨w2,e2⟩:=j2 _ h2 r
   exact⟨.map w1 w2 md,by simp only[iB,List.append_assoc,e1,e2],.inr (.inr (.inr (.inl ⟨_,_,_,_,_,rfl,rfl,_,_,rfl⟩)))⟩
  ·cases h
 ·rename_i u v md
  split at h
  ·split at h
   ·rename_i u' v' l' md' _ _ l2 hb hc
    have hb:=za hb
    subst hb
    obtain⟨e1,e2⟩:=zq hc
    cases e1;cases e2;cases h
    exact⟨.kv u v l' md,rfl,.inr (.inr (.inr (.inr (.inl ⟨_,_,_,_,.inl ⟨_,rfl⟩,rfl,rfl⟩))))⟩
   ·cases h
  ·split at h
   ·rename_i ks vs md' hb
    have hb:=za hb
    subst hb
    cases h
    exact⟨.kv u v [] md,rfl,.inr (.inr (.inr (.inr (.inl ⟨_,_,_,_,.inr rfl,rfl,rfl⟩))))⟩
   ·cases h
  ·cases h
 ·cases h;exact⟨.gone,rfl,.inl ⟨rfl,rfl⟩⟩
 ·cases h
theorem zib{ph:List PB}{h0:SH}:∀ {pl:List PB} {bl:List SB} {ls:List Lf},mBs ph h0 pl bl=some ls->∀ r,∃ zs,iBs pl (ls++r)=(zs,r)/\zs.length=pl.length/\pl.length<=bl.length/\∀ (i:Nat) (b':SB),zs[i]?=some b'->∃ pb b,pl[i]?=some pb/\bl[i]?=some b/\Lk pb b b'
 | [],bl,ls,h,r=>by simp [mBs] at h;subst h;exact⟨[],rfl,rfl,Nat.zero_le _,fun i b' h=>by simp at h⟩
 |p::pl,bl,ls,h,r=>by
  cases bl with
  |nil=>simp [mBs] at h
  |cons b bl=>
   simp only[mBs] at h
   split at h
   ·rename_i l1 l2 h1 h2
    cases h
    obtain⟨w,e1,k1⟩:=zjQ h1 (l2++r)
    obtain⟨zs,e2,k2,k3,k4⟩:=zib h2 r
    refine⟨w::zs,by simp only[iBs,List.append_assoc,e1,e2],by simp [k2],by simp [k3],fun i b' hi=>?_⟩
    cases i with
    |zero=>simp at hi;subst hi;exact⟨p,b,rfl,rfl,k1⟩
    |succ i=>simpa using k4 i b' (by simpa using hi)
   ·cases h
theorem zg7{ph:List PB}{X Z:Gst}(hM:Mt ph X Z){p:PB}{b:SB}{ls:List Lf}(h:mB ph X.sh p b=some ls){o:Option (Nat×Nat)}(hB:RB X b o)(r:List Lf):RB Z (iB p (ls++r)).1 o:=by
 unfold mB at h
 split at h
 ·split at h
  ·rename_i hb
   simp only[Bool.and_eq_true] at hb
   obtain⟨m,l',tt,e,h1,h2⟩:=hB
   obtain⟨w,e1,q⟩:=zT hM _ h h2 r
   obtain⟨tt',htt⟩:=zf1 hb.2 tt
   simp only[iB,e1]
   exact⟨m,l',tt',e,by rw[hM.h,<- htt];exact h1,q⟩
  ·cases h
 ·split at h
  ·obtain⟨m,env',ps,asg,body,e,h1,h2,h3⟩:=hB
   rename_i hb
   simp only[Bool.and_eq_true] at hb
   cases za hb.2
   obtain⟨w,e1,q⟩:=zT hM _ h h3 r
   simp only[iB,e1]
   exact⟨m,env',ps,asg,body,e,h1,by rw[hM.h];exact h2,q⟩
  ·cases h
 ·split at h
  ·rename_i u n md fx u' l k md' _ _ l2 hb hc
   obtain⟨e1,e2⟩:=zq hc
   subst e1;cases e2;cases h
   simp only[Bool.and_eq_true] at hb
   obtain⟨hb,_,hmk⟩:=hb
   have hb:=za hb
   subst hb
   cases o with
   |none=>exact hB
   |some p=>
    obtain⟨m,ver⟩:=p
    obtain⟨cells,minv,tt,h1,h2,h3,h4⟩:=hB
    obtain⟨tt',htt⟩:=zf1 hmk tt
    refine⟨cells,minv,tt',by rw[hM.h,<- htt];exact h1,h2,by rw[hM.h,hM.Φ];exact h3,fun e=>by rw[hM.Φ];exact h4 e⟩
  ·cases h
 ·split at h
  ·rename_i ks vs md ks' vs' md' _ _ _ a b' hb h1 h2
   cases h
   obtain⟨m,es,e,q1,q2,q3⟩:=hB
   obtain⟨w1,e1,r1⟩:=zT hM _ h1 q2 (b'++r)
   obtain⟨w2,e2,r2⟩:=zT hM _ h2 q3 r
   simp only[iB,List.append_assoc,e1,e2]
   exact⟨m,es,e,by rw[hM.h];exact q1,r1,r2⟩
  ·cases h
 ·rename_i u v md
  split at h
  ·split at h
   ·rename_i u' v' l' md' _ _ l2 hb hc
    obtain⟨e1,e2⟩:=zq hc
    cases e1;cases e2;cases h
    have hb:=za hb
    subst hb
    obtain⟨m,es,e,q1,q2,q3⟩:=hB
    exact⟨m,es,e,by rw[hM.h];exact q1,ziN hM.h hM.Φ _ _ _ q2,ziN hM.h hM.Φ _ _ _ q3⟩
   ·cases h
  ·split at h
   ·rename_i hb
    cases h
    obtain⟨m,es,e,q1,q2,q3⟩:=hB
    exact⟨m,es,e,by rw[hM.h];exact q1,q2,q3⟩
   ·cases h
  ·cases h
 ·trivial
 ·cases h
theorem zcv{ph:List PB}{X Z:Gst}(hM:Mt ph X Z):∀ {pl:List PB} {bl:List SB} {ls:List Lf},mBs ph X.sh pl bl=some ls->∀ (r:List Lf) (i:Nat) (b b':SB) (o:Option (Nat×Nat)),(iBs pl (ls++r)).1[i]?=some b'->bl[i]?=some b->RB X b o->RB Z b' o
 | [],bl,ls,h,r,i,b,b',o,hz,hb,hB=>by simp [iBs] at hz
 |p::pl,bl,ls,h,r,i,b,b',o,hz,hb,hB=>by
  cases bl with
  |nil=>simp [mBs] at h
  |cons b0 bl=>
   simp only[mBs] at h
   split at h
   ·rename_i l1 l2 h1 h2
    cases h
    obtain⟨w,e1,k1⟩:=zjQ h1 (l2++r)
    cases i with
    |zero=>
     simp only[List.getElem?_cons_zero,Option.some.injEq] at hb
     subst hb
     simp only[iBs,List.getElem?_cons_zero,Option.some.injEq,List.append_assoc] at hz
     subst hz
     exact zg7 hM h1 hB _
    |succ i=>
     simp only[iBs,List.getElem?_cons_succ,List.append_assoc,e1] at hz
     exact zcv hM h2 r i b b' o hz (by simpa using hb) hB
   ·cases h
end Go.Sx
namespace Go.Sx
open Go Go.Gx Go.Mx
variable [z6]
theorem Dk.zlT{k:Nat×Option Nat}{X:Gst}{h:zb}{Φ:Nat->Prop}{σ:List (Option (Nat×Nat))}{sh:SH}{dl:List Dfd}{rnd:Option Nat}(q:Dk k X dl rnd)(hh:h=X.h)(hΦ:Φ=X.Φ)
  (hσ:∀ (i:Nat) (o:Option (Nat×Nat)),σ[i]?=some o->X.σ[i]?=some o) (hz:∀ (i m v:Nat) (b:SB),sh[i]?=some b->σ[i]?=some (some (m,v))->k.2=some m->Kp X m->b=.gone):Dk k ⟨h,Φ,σ,sh⟩ dl rnd:=by
 subst hh;subst hΦ
 exact⟨q.base,q.nd,fun d hd=>let⟨m,h1,h2,h3,h4,h5⟩:=q.dl d hd;⟨m,h1,h2,h3,⟨h4.lt,h4.phi,fun i v b hb ho=>absurd (hσ i _ ho) (h5 i v)⟩,fun i v e=>h5 i v (hσ i _ e)⟩,q.rnd,fun m hm=>let⟨h1,h2⟩:=q.lo m hm;⟨h1,h2.lt,h2.phi,fun i v b hb ho=>hz i m v b hb ho hm h2⟩⟩
theorem weaken{X0 Y:Gst}(hr0:RH X0)(hS:Stp X0 Y){q:PS}{st:SS}{ms:St}{k0:Nat×Option Nat}(hst:StR k0 Y st ms){os:List Lf}(hm:mS q st=some os)(hlen:X0.sh.length<=q.h.length)
  (hver:∀ (loc:Nat) (u:U) (n md:Nat) (fx:Bool),q.h[loc]?=some (.seq u n md fx)->loc<X0.sh.length->∃ u' l k md',X0.sh[loc]?=some (.seq u' l k md')/\(k<n\/(fx=true/\k=n)))
  (K:Nat->Bool) (hK:∀ i,K i=true->i<X0.sh.length/\Y.sh[i]?=some .gone/\Y.σ[i]?=X0.σ[i]? /\ ∀ m v,X0.σ[i]?=some (some (m,v))->Y.h[m]?=X0.h[m]? /\ (Y.Φ m->X0.Φ m))
  (hlo:∀ m,k0.2=some m->Kp X0 m) {zh:SH} (hzl:zh.length=(iS q os).h.length) (hz:∀ i,zh[i]?=if K i=true then X0.sh[i]? else(iS q os).h[i]?):
  ∃ Z,Stp X0 Z/\StR k0 Z ⟨(iS q os).env,zh⟩ ms/\Z.h=Y.h/\Z.Φ=Y.Φ/\Z.σ=Y.σ.take q.h.length/\∀ (i:Nat),q.h[i]?=some .gone->(iS q os).h[i]?=some .gone:=by
 unfold mS at hm
 split at hm
 ·rename_i l1 l2 h1 h2
  cases hm
  rw[<- hst.sh] at h1 h2
  obtain⟨we,e1⟩:=j2 q.env h1 l2
  obtain⟨zs,e2,k1,k2,k3⟩:=zib h2 []
  rw[List.append_nil] at e2
  have hiS:iS q (l1++l2)=⟨we,zs⟩:=by unfold iS;rw[e1,e2]
  rw[hiS] at hz hzl |-
  have hzl:zh.length=zs.length:=hzl
  have hz:∀ (i:Nat),zh[i]?=if K i=true then X0.sh[i]? else zs[i]?:=hz
  have hσn:(Y.σ.take q.h.length).length=q.h.length:=by rw[List.length_take,hS.hr.len];omega
  have hσg:∀ (i:Nat),i<q.h.length->(Y.σ.take q.h.length)[i]?=Y.σ[i]?:=fun i hi=>by rw[List.getElem?_take,if_pos hi]
  have hσs:∀ (i:Nat) o,(Y.σ.take q.h.length)[i]?=some o->Y.σ[i]?=some o/\i<q.h.length:=fun i o h=>by
   rw[List.getElem?_take] at h;split at h
   ·rename_i hi;exact⟨h,hi⟩
   ·cases h
  have hzs:∀ (i:Nat),i<q.h.length->∃ b',zs[i]?=some b':=fun i hi=>⟨zs[i]'(by omega),List.getElem?_eq_getElem _⟩
  have hM:Mt q.h Y ⟨Y.h,Y.Φ,Y.σ.take q.h.length,zh⟩:=by
   refine⟨rfl,rfl,fun loc m ⟨v,h⟩ hl=>⟨v,(hσg loc hl).trans h⟩,fun loc u n md fx u' l k md' hp hb=>?_⟩
   have hl:=(List.getElem?_eq_some_iff.1 hp).1
   refine⟨?_,hσg loc hl⟩
   show zh[loc]?=_
   rw[hz,if_neg (fun hk=>by have:=(hK loc hk).2.1;rw[hb] at this;cases this)]
   obtain⟨b',hb'⟩:=hzs loc hl
   obtain⟨pb,b,h3,h4,h5⟩:=k3 loc b' hb'
   rw[hp] at h3;cases h3
   rw[hb] at h4;cases h4
   rw[hb']
   rcases h5 with⟨h,_⟩|⟨_,_,_,_,_,_,_,_,_,h⟩|⟨u3,l3,k4,n3,md3,h6,h7,fx3,h8,hfx3,_⟩|⟨_,_,_,_,_,_,_,_,_,h⟩|⟨_,_,_,_,_,_,h⟩|⟨_,_,_,_,_,_,_,h⟩
   ·cases h
   ·cases h
   ·cases h6;cases h8;rw[h7]
   ·cases h
   ·cases h
   ·cases h
  obtain⟨we',e3,hwe⟩:=zT hM q.env h1 hst.env l2
  rw[e1] at e3
  cases e3
  have hle:X0.le ⟨Y.h,Y.Φ,Y.σ.take q.h.length,zh⟩:=by
   refine⟨hS.le.h,hS.le.Φ,by show _<=(Y.σ.take q.h.length).length;rw[hσn,hr0.len];exact hlen,fun loc m v h=>?_,fun loc u l k md hl hs=>?_,hS.le.shl⟩
   ·obtain⟨v',h'⟩:=hS.le.at_ loc m v h
    have:=(List.getElem?_eq_some_iff.1 h).1
    exact⟨v',(hσg loc (by rw[hr0.len] at this;omega)).trans h'⟩
   ·have hs:zh[loc]?=some (.seq u l k md):=hs
    rw[hz] at hs
    split at hs
    ·rename_i hk
     exact⟨l,k,md,hs,Nat.le_refl _,fun _=>⟨rfl,(hσg loc (by omega)).trans (hK loc hk).2.2.1⟩⟩
    ·obtain⟨pb,b,h3,h4,h5⟩:=k3 loc _ hs
     rcases h5 with⟨_,h⟩|⟨_,_,_,_,_,_,_,h,_⟩|⟨u3,l3,k4,n3,md3,h6,h7,fx3,h8,hfx3,_⟩|⟨_,_,_,_,_,_,h,_⟩|⟨_,_,_,_,_,h,_⟩|⟨_,_,_,_,_,h,_⟩
     ·cases h
     ·cases h
     ·cases h7
      subst h6;subst h8
      obtain⟨u',l0,k0,md0,h9,h10⟩:=hver loc _ _ _ _ h3 hl
      obtain⟨l',k',md',h11,h12,h13⟩:=hS.le.seq loc _ _ _ _ hl h4
      rw[h9] at h11;cases h11
      rcases h10 with h10|⟨h10,h14⟩
      ·exact⟨_,_,_,h9,Nat.le_of_lt h10,fun e=>absurd e (by omega)⟩
      ·have hk:=hfx3 h10
       subst hk;subst h14
       obtain⟨q1,q2⟩:=h13 rfl
       exact⟨_,_,_,h9,Nat.le_refl _,fun _=>⟨q1,(hσg loc (by omega)).trans q2⟩⟩
     ·cases h
     ·cases h
     ·cases h
  refine⟨⟨Y.h,Y.Φ,Y.σ.take q.h.length,zh⟩,⟨hle,⟨?_,fun i j m v v' h3 h4=>?_,fun i m v h3=>?_,hS.hr.Φlt,fun i b o h3 h4=>?_,fun i m v b h3 h4 h5=>?_⟩,⟨hS.fm.len,hS.fm.h,fun i b hb hmd=>?_,fun i m v h3 hm=>?_,fun i h3=>?_,hS.fm.phi⟩⟩,⟨hwe,rfl,hst.h,hst.dk.zlT rfl rfl (fun i o e=>(hσs i o e).1) fun i m v b h3 h4 hkm hk=>?_⟩,rfl,rfl,rfl,fun i hi=>?_⟩
  ·show(Y.σ.take q.h.length).length=zh.length;rw[hσn,hzl,k1]
  ·exact hS.hr.inj _ _ _ _ _ (hσs _ _ h3).1 (hσs _ _ h4).1
  ·exact hS.hr.lt _ _ _ (hσs _ _ h3).1
  ·have h3:zh[i]?=some b:=h3
   obtain⟨h4,h5⟩:=hσs _ _ h4
   rw[hz] at h3
   split at h3
   ·rename_i hk
    obtain⟨q1,q2,q3,q4⟩:=hK i hk
    rw[q3] at h4
    exact(hr0.blk i b o h3 h4).le hle fun m v e=>(q4 m v (e ▸ h4)).1
   ·obtain⟨pb,b0,h6,h7,h8⟩:=k3 i _ h3
    have:=zcv hM h2 [] i b0 b o (by rw[List.append_nil,e2];exact h3) h7 (hS.hr.blk i b0 o h7 h4)
    exact this
  ·have h3:zh[i]?=some b:=h3
   obtain⟨h4,h6⟩:=hσs _ _ h4
   rw[hz] at h3
   split at h3
   ·rename_i hk
    obtain⟨q1,q2,q3,q4⟩:=hK i hk
    rw[q3] at h4
    exact hr0.own i m v b h3 h4 ((q4 m v h4).2 h5)
   ·obtain⟨pb,b0,h6,h7,h8⟩:=k3 i _ h3
    have ho:=hS.hr.own i m v b0 h7 h4 h5
    rcases h8 with⟨_,h⟩|⟨_,_,_,_,_,_,rfl,rfl,_⟩|⟨_,_,_,_,_,rfl,rfl,_⟩|⟨_,_,_,_,_,rfl,rfl,_⟩|⟨_,_,_,_,⟨_,rfl⟩|rfl,rfl,_⟩|⟨_,_,_,_,rfl,rfl,_⟩
    ·exact .inr h
    ·exact ho.imp id fun h=>by cases h
    ·exact ho.imp id fun h=>by cases h
    ·exact ho.imp id fun h=>by cases h
    ·exact ho.imp id fun h=>by cases h
    ·exact ho.imp id fun h=>by cases h
    ·exact ho.imp id fun h=>by cases h
  ·have hi:=(List.getElem?_eq_some_iff.1 hb).1
   show ∃ b',zh[i]?=some b'/\_
   rw[hz]
   split
   ·exact⟨b,hb,hmd⟩
   ·obtain⟨b',hb'⟩:=hzs i (by omega)
    obtain⟨pb,b0,h6,h7,h8⟩:=k3 i _ hb'
    obtain⟨b2,h9,h10⟩:=hS.fm.md i b hb hmd
    rw[h7] at h9;cases h9
    refine⟨b',hb',?_⟩
    rcases h8 with⟨_,rfl⟩|⟨_,_,_,_,_,_,rfl,rfl,_⟩|⟨_,_,_,_,_,rfl,rfl,_⟩|⟨_,_,_,_,_,rfl,rfl,_⟩|⟨_,_,_,_,⟨_,rfl⟩|rfl,rfl,_⟩|⟨_,_,_,_,rfl,rfl,_⟩
    ·simp [SB.md]
    ·exact h10
    ·exact h10
    ·exact h10
    ·exact h10
    ·exact h10
    ·exact h10
  ·exact hS.fm.new i m v (hσs _ _ h3).1 hm
  ·have hi:=(List.getElem?_eq_some_iff.1 h3).1
   obtain⟨h4,h5⟩:=hS.fm.gone i h3
   refine⟨?_,(hσg i (by omega)).trans h5⟩
   show zh[i]?=_
   rw[hz]
   split
   ·exact h3
   ·obtain⟨b',hb'⟩:=hzs i (by omega)
    obtain⟨pb,b0,h6,h7,h8⟩:=k3 i _ hb'
    rw[h4] at h7;cases h7
    rcases h8 with⟨_,rfl⟩|⟨_,_,_,_,_,_,h,_⟩|⟨_,_,_,_,_,h,_⟩|⟨_,_,_,_,_,h,_⟩|⟨_,_,_,_,⟨_,h⟩|h,_⟩|⟨_,_,_,_,h,_⟩
    ·exact hb'
    ·cases h
    ·cases h
    ·cases h
    ·cases h
    ·cases h
    ·cases h
  ·obtain⟨h4,h5⟩:=hσs _ _ h4
   have h3:zh[i]?=some b:=h3
   rw[hz] at h3
   split at h3
   ·rename_i hk2
    obtain⟨q1,q2,q3,q4⟩:=hK i hk2
    exact(hlo m hkm).gone i v b h3 (by rw[<- q3];exact h4)
   ·obtain⟨pb,b0,h6,h7,h8⟩:=k3 i _ h3
    have hg0:=hk.gone i v b0 h7 h4
    subst hg0
    rcases h8 with⟨_,h⟩|⟨_,_,_,_,_,_,h,_⟩|⟨_,_,_,_,_,h,_⟩|⟨_,_,_,_,_,h,_⟩|⟨_,_,_,_,⟨_,h⟩|h,_⟩|⟨_,_,_,_,h,_⟩
    ·exact h
    ·cases h
    ·cases h
    ·cases h
    ·cases h
    ·cases h
    ·cases h
  ·have hl:=(List.getElem?_eq_some_iff.1 hi).1
   obtain⟨b',hb'⟩:=hzs i hl
   obtain⟨pb,b0,h6,h7,h8⟩:=k3 i _ hb'
   rw[hi] at h6;cases h6
   rcases h8 with⟨_,rfl⟩|⟨_,_,_,_,_,_,_,_,_,h⟩|⟨_,_,_,_,_,_,_,_,h,_⟩|⟨_,_,_,_,_,_,_,_,_,h⟩|⟨_,_,_,_,_,_,h⟩|⟨_,_,_,_,_,_,_,h⟩
   ·exact hb'
   ·cases h
   ·cases h
   ·cases h
   ·cases h
   ·cases h
 ·cases hm
end Go.Sx
namespace Go.Sx
open Go Go.Gx Go.Mx
variable [z6]
def zlj:SV->SV->Bool
 |.ifc t (.agg []),.ifc t' (.agg [])=>Nat.beq t t'
 |_,_=>false
theorem zi3{X Z:Gst}{v w:SV}{x:AV}(h:zlj v w=true)(hv:RV X w x):RV Z v x:=by
 unfold zlj at h
 split at h
 ·have:=za h
  subst this
  obtain⟨y,rfl,l,rfl,hl⟩:=hv
  cases(show l=[] from hl)
  exact⟨_,rfl,[],rfl,rfl⟩
 ·cases h
def zkh:SX->SX->Bool
 |.ret,.ret=>true
 |.exit i,.exit j=>Nat.beq i j
 |.panic v,.panic w=>zlj v w
 |_,_=>false
def zdH(e:SX)(st:SS){R:Type}(out:Nat->List Lf->Option R):List (SX×PS)->Nat->Option R
 | [],_=>none
 |(x,q)::l,k=>match zkh x e with
  |true=>match mS q st with
   |some os=>out k os
   |none=>zdH e st out l (k+1)
  |false=>zdH e st out l (k+1)
def round(P:Program)(gl:GL)(ct:CT)(n:Nat)(pl:Pl)(p:PS)(outs:List (SX×PS))(c:Code){R:Type}(ls:List Lf)(rec_:List Lf->Option R)(out:Nat->List Lf->Option R):Option R:=
 jj P gl ct n pl c (iS p ls) fun e st'=>match e with
  |.normal=>match mS p st' with
   |some ls'=>rec_ ls'
   |none=>none
  |e=>zdH e st' out outs 0
def zhT:List PB->SH->Bool
 |.seq _ n _ fx::p,b::h=>(match b with
  |.seq _ _ k _=>Nat.blt k n||(fx&&Nat.beq k n)
  |_=>false)&&zhT p h
 |_::p,_::h=>zhT p h
 |_,_=>true
def back:SH->List PB->SH->SH
 |b0::h0,.gone::p,b::h=>(match b with
  |.gone=>b0
  |b=>b)::back h0 p h
 |_::h0,_::p,b::h=>b::back h0 p h
 |_,_,h=>h
def zep(n:Nat)(h:SH):List (SX×PS)->Bool
 | []=>true
 |(_,q)::l=>Nat.ble n q.h.length&&zhT q.h h&&zep n h l
theorem zau:∀ {p:List PB} {h:SH},zhT p h=true->∀ (loc:Nat) (u:U) (n md:Nat) (fx:Bool),p[loc]?=some (.seq u n md fx)->loc<h.length->∃ u' l k md',h[loc]?=some (.seq u' l k md')/\(k<n\/(fx=true/\k=n))
 | [],h,hv,loc,u,n,md,fx,hp,hl=>by simp at hp
 |q::p,[],hv,loc,u,n,md,fx,hp,hl=>by simp at hl
 |q::p,b::h,hv,loc,u,n,md,fx,hp,hl=>by
  cases loc with
  |zero=>
   simp at hp;subst hp
   simp only[zhT,Bool.and_eq_true] at hv
   cases b with
   |seq u' l k md'=>
    simp only[Bool.or_eq_true,Bool.and_eq_true] at hv
    exact⟨u',l,k,md',rfl,hv.1.imp zH fun h=>⟨h.1,za h.2⟩⟩
   |_=>simp at hv
  |succ loc=>
   have hv':zhT p h=true:=by
    cases q<;>simp only[zhT,Bool.and_eq_true] at hv<;>first|exact hv|exact hv.2
   simpa using zau hv' loc u n md fx (by simpa using hp) (by simpa using hl)
theorem zag{n:Nat}{h:SH}:∀ {outs:List (SX×PS)},zep n h outs=true->∀ (k:Nat) (x:SX) (q:PS),outs[k]?=some (x,q)->n<=q.h.length/\zhT q.h h=true
 | [],_,k,x,q,hk=>by simp at hk
 |(x0,q0)::l,ho,k,x,q,hk=>by
  simp only[zep,Bool.and_eq_true] at ho
  cases k with
  |zero=>simp at hk;obtain⟨rfl,rfl⟩:=hk;exact⟨Nat.le_of_ble_eq_true ho.1.1,ho.1.2⟩
  |succ k=>exact zag ho.2 k x q (by simpa using hk)
def kept(h0:SH)(p:List PB)(h:SH)(i:Nat):Bool:=match h0[i]?,p[i]?,h[i]? with
 |some _,some .gone,some .gone=>true
 |_,_,_=>false
theorem zeb:∀ {h0:SH} {p:List PB} {h:SH} (i:Nat),(back h0 p h)[i]?=if kept h0 p h i=true then h0[i]? else h[i]?
 | [],p,h,i=>by simp [back,kept]
 |b0::h0,[],h,i=>by simp [back,kept]
 |b0::h0,q::p,[],i=>by cases q<;>simp [back,kept]
 |b0::h0,q::p,b::h,i=>by
  cases i with
  |zero=>cases q<;>cases b<;>simp [back,kept]
  |succ i=>
   have:=zeb (h0:=h0) (p:=p) (h:=h) i
   cases q<;>simp only[back,List.getElem?_cons_succ,kept]<;>exact this
theorem xU:∀ {h0:SH} {p:List PB} {h:SH},(back h0 p h).length=h.length
 | [],p,h=>by simp [back]
 |b0::h0,[],h=>by simp [back]
 |b0::h0,q::p,[]=>by cases q<;>simp [back]
 |b0::h0,q::p,b::h=>by
  have:=xU (h0:=h0) (p:=p) (h:=h)
  cases q<;>simp only[back,List.length_cons,this]
section
variable {P:Program} {gl:GL} {ct:CT} {hk:zG}
structure Inv(X0:Gst)(p:PS)(Y:Gst):Prop where
 stp:Stp X0 Y
 kept:∀ (i:Nat),p.h[i]?=some .gone->i<X0.sh.length->Y.sh[i]?=some .gone/\Y.σ[i]?=X0.σ[i]? /\ ∀ m v,X0.σ[i]?=some (some (m,v))->Y.h[m]?=X0.h[m]? /\ (Y.Φ m->X0.Φ m)
theorem Inv.step{X0 Y Z:Gst}{p:PS}(h:Inv X0 p Y)(hr0:RH X0)(hS:Stp Y Z):Inv X0 p Z:=by
 refine⟨h.stp.trans hS,fun i hi hl=>?_⟩
 obtain⟨h1,h2,h3⟩:=h.kept i hi hl
 obtain⟨h4,h5⟩:=hS.fm.gone i h1
 refine⟨h4,h5.trans h2,fun m v hm=>?_⟩
 obtain⟨h6,h7⟩:=h3 m v hm
 have hmY:m<Y.h.length:=h.stp.hr.lt i m v (h2.trans hm)
 refine⟨(hS.fm.h m hmY fun i' v' b' hb' hs'=>?_).trans h6,fun hΦ=>?_⟩
 ·have:=h.stp.hr.inj _ _ _ _ _ hs' (h2.trans hm)
  subst this
  rw[h1] at hb';cases hb';simp [SB.md]
 ·rcases hS.fm.phi m hmY hΦ with h8|⟨i',v',b',h8,h9,h10⟩
  ·exact h7 h8
  ·have:=h.stp.hr.inj _ _ _ _ _ h9 (h2.trans hm)
   subst this
   rw[h1] at h8;cases h8;exact absurd rfl h10
theorem kG{e:SX}{st:SS}{R:Type}{out:Nat->List Lf->Option R}{r:R}:∀ {outs:List (SX×PS)} {k:Nat},zdH e st out outs k=some r->∃ j x q os,outs[j]?=some (x,q)/\zkh x e=true/\mS q st=some os/\out (k+j) os=some r
 | [],k,h=>by simp [zdH] at h
 |(x,q)::l,k,h=>by
  simp only[zdH] at h
  split at h
  ·rename_i hx
   split at h
   ·rename_i os hos;exact⟨0,x,q,os,rfl,hx,hos,h⟩
   ·obtain⟨j,x',q',os,h1,h2,h3,h4⟩:=kG h
    exact⟨j+1,x',q',os,h1,h2,h3,by rwa [Nat.add_right_comm] at h4⟩
  ·obtain⟨j,x',q',os,h1,h2,h3,h4⟩:=kG h
   exact⟨j+1,x',q',os,h1,h2,h3,by rwa [Nat.add_right_comm] at h4⟩
theorem iter(hct:zlw P gl ct hk){n:Nat}{pl:Pl}{c:Code}(hpl:qv P gl hk pl c){p:PS}{outs:List (SX×PS)}{X0:Gst}(hr0:RH X0)(hg0:RGl P gl X0)(hlen:p.h.length=X0.sh.length)(hver:zhT p.h X0.sh=true)(hout:zep X0.sh.length X0.sh outs=true)
  {O:Type} {G:Nat->List Lf->Option O} {od:Nat->List Lf->Option O} (h0:∀ ls,G 0 ls=none) (hs:∀ m ls o,G (m+1) ls=some o->round P gl ct n pl p outs c ls (G m) od=some o) {k0:Nat×Option Nat} (hlo:∀ m,k0.2=some m->Kp X0 m):
  ∀ (m:Nat) (ls:List Lf) (o:O),G m ls=some o->∀ (Y:Gst) (ms:St),Inv X0 p Y->StR k0 Y (iS p ls) ms ->
  ∃ k os x q Z me ms',od k os=some o/\outs[k]?=some (x,q)/\Stp X0 Z/\StR k0 Z ⟨(iS q os).env,back X0.sh p.h (iS q os).h⟩ ms'/\ExR Z x me/\Ev fun m=>zC P hk m (.loop c) ms=some (me,ms')
 |0,ls,o,h=>by rw[h0] at h;cases h
 |m+1,ls,o,h=>by
  intro Y ms hI hst
  have h:=hs m ls o h
  obtain⟨e,st',Y',me,ms',h1,S1,hs1,he1,ev1⟩:=(zjf hct n).1 pl c hpl k0 _ _ _ _ Y ms h hst hI.stp.hr (hg0.le hI.stp.le)
  have hI':=hI.step hr0 S1
  have key:zdH e st' od outs 0=some o->(∀ m,zC P hk m c ms=some (me,ms')->zC P hk (m+1) (.loop c) ms=some (me,ms')) ->
    ∃ k os x q Z me ms',od k os=some o/\outs[k]?=some (x,q)/\Stp X0 Z/\StR k0 Z ⟨(iS q os).env,back X0.sh p.h (iS q os).h⟩ ms'/\ExR Z x me/\Ev fun m=>zC P hk m (.loop c) ms=some (me,ms'):=by
   intro h1 hrun
   obtain⟨j,x,q,os,h2,h3,h4,h5⟩:=kG h1
   obtain⟨h6,h7⟩:=zag hout j x q h2
   obtain⟨Z,S2,hs2,hh,hΦ,hσ,hg⟩:=weaken hr0 hI'.stp hs1 h4 h6 (zau h7) (kept X0.sh p.h (iS q os).h) (fun i hi=>by
    unfold kept at hi
    split at hi
    ·rename_i a1 a2 a3
     have hl:=(List.getElem?_eq_some_iff.1 a1).1
     obtain⟨q1,q2,q3⟩:=hI'.kept i a2 hl
     exact⟨hl,q1,q2,q3⟩
    ·cases hi) hlo (zh:=back X0.sh p.h (iS q os).h) xU zeb
   refine⟨0+j,os,x,q,Z,me,ms',h5,by simpa using h2,S2,hs2,?_,Ev.succ (ev1.mono hrun)⟩
   cases x<;>cases e<;>first|cases h3|skip
   ·cases me<;>first|trivial|cases he1
   ·have:=za h3
    subst this
    cases me<;>first|exact he1|cases he1
   ·cases me<;>first|exact zi3 h3 he1|cases he1
  cases e with
  |normal=>
   cases me<;>first|cases he1|skip
   simp only at h1
   split at h1
   ·rename_i ls' hls
    obtain⟨Z,S2,hs2,hh,hΦ,hσ,hg⟩:=weaken hr0 hI'.stp hs1 hls (by omega) (zau hver) (fun _=>false) (fun _ h=>by cases h) hlo (zh:=(iS p ls').h) rfl (fun i=>by simp)
    have hI2:Inv X0 p Z:=by
     refine⟨S2,fun i hi hl=>?_⟩
     obtain⟨q1,q2,q3⟩:=hI'.kept i hi hl
     refine⟨by rw[hs2.sh];exact hg i hi,?_,fun m v hm=>?_⟩
     ·rw[hσ,List.getElem?_take,if_pos (by omega)];exact q2
     ·rw[hh,hΦ];exact q3 m v hm
    obtain⟨k,os,x,q,Z',me2,ms2,h2,h2',S3,hs3,he3,ev2⟩:=iter hct hpl hr0 hg0 hlen hver hout h0 hs hlo m ls' o h1 Z ms' hI2 hs2
    exact⟨k,os,x,q,Z',me2,ms2,h2,h2',S3,hs3,he3,Ev.succ ((ev1.and ev2).mono fun n ⟨p,q⟩=>by simp only[zC,zy,p,q])⟩
   ·cases h1
  |ret=>
   cases me<;>first|cases he1|skip
   exact key h1 fun m p=>by simp only[zC,zy,p]
  |exit id=>
   cases me<;>first|cases he1|skip
   exact key h1 fun m p=>by simp only[zC,zy,p]
  |panic v=>
   cases me<;>first|cases he1|skip
   exact key h1 fun m p=>by simp only[zC,zy,p]
end
end Go.Sx
namespace Go.Sx
open Go Go.Gx Go.Mx
variable [z6]
def zk2:List U->U
 | []=>.unit
 |u::l=>.pair u (zk2 l)
def zh1:(us:List U)->El (zk2 us)->List SV
 | [],_=>[]
 |u::l,x=>zc6 u x.1::zh1 l x.2
theorem ze6{h:zb}{Φ:Nat->Prop}{Z:Gst}(hh:Z.h=h)(hΦ:Z.Φ=Φ){u:U}{x:El u}{cs:List AV}(q:RE h Φ u x cs):(u.agg=true->RV Z (zc6 u x) (.agg cs))/\(u.agg=false->∀ c,cs=[c]->RV Z (zc6 u x) c):=by
 subst hh;subst hΦ
 cases u with
 |bool=>exact⟨(fun h=>by cases h),fun _ c e=>by cases(show cs=_ from q);cases e;rfl⟩
 |int k=>exact⟨(fun h=>by cases h),fun _ c e=>by cases(show cs=_ from q);cases e;rfl⟩
 |u8=>exact⟨(fun h=>by cases h),fun _ c e=>by cases(show cs=_ from q);cases e;rfl⟩
 |str=>exact⟨(fun h=>by cases h),fun _ c e=>by cases(show cs=_ from q);cases e;rfl⟩
 |sl u=>exact⟨(fun h=>by cases h),fun _ c e=>by obtain⟨y,e2,q⟩:=ziw.1 q;rw[e] at e2;cases e2;exact q⟩
 |pair u v=>exact⟨fun _=>⟨cs,rfl,qD q⟩,fun h=>by cases h⟩
 |unit=>exact⟨fun _=>⟨cs,rfl,q⟩,fun h=>by cases h⟩
section
variable {P:Program} {gl:GL} {ct:CT} {hk:zG}
end
end Go.Sx
namespace Go.Mx
open Go Go.Gx
def AV.kO:AV->Bool
 |.bool _|.int _ _|.str _|.xA|.zZ|.xz|.zb5|.w8|.any|.opq=>true
 |_=>false
def AV.zkY:AV->Bool
 |.tup l=>l.all AV.kO
 |v=>v.kO
theorem V.kO{G G':Gh}{v:AV}{u:Value}(hs:v.kO=true)(h:V G v u):V G' v u:=by
 cases h<;>first|(cases hs;done)|constructor
theorem VL.kO{G G':Gh}:∀ {l:List AV} {us:List Value},l.all AV.kO=true->VL G l us->VL G' l us
 | [],us,_,h=>by cases h;exact .nil
 |x::l,us,hs,h=>by
  cases h with
  |cons h1 h2=>
   simp only[List.all_cons,Bool.and_eq_true] at hs
   exact .cons (V.kO hs.1 h1) (VL.kO hs.2 h2)
theorem V.zkY{G G':Gh}{v:AV}{u:Value}(hs:v.zkY=true)(h:V G v u):V G' v u:=by
 cases v with
 |tup l=>cases h with|tup h=>exact .tup (VL.kO hs h)
 |_=>exact V.kO hs h
structure Laid(P:Program)(hgl:zb)(Gg:Gh)(B:Nat)(W0:World):Prop where
 hr:HR Gg B hgl W0
 low:∀ loc v r,Gg.at loc v=some r->r.b<B
 g:∀ g,g<P.globals.size->∃ r,Gg.at g 0=some r/\r.b=g/\r.lo=0/\r.sh=0
def HOK(P:Program)(hgl:zb)(Gg:Gh)(hk:zG):Prop:=∀ B W0,Laid P hgl Gg B W0->zbj P B W0 hk
section
variable {P:Program} {hgl:zb} {Gg:Gh} {B:Nat} {W0 w:World}
theorem Laid.at(h:Laid P hgl Gg B W0)(hl:∀ b,b<B->w.heap[b]?=W0.heap[b]?)(hs:B<=w.heap.size){B':Nat}(hB:B<=B')(hs':B'<=w.heap.size):Laid P hgl Gg B' w:=by
 refine⟨⟨h.hr.len,fun loc b vs hb hg=>(h.hr.blk loc b vs hb hg).mono (Gh.le_refl _) fun v r hv=>hl _ (h.low loc v r (Gh.jC hg hv)),fun loc v r hat=>Nat.lt_of_lt_of_le (h.low loc v r hat) hs,fun loc v r b hat hb=>?_,fun l1 l2 v1 v2 r1 r2 h1 _ hB1 _=>?_,hs'⟩,fun loc v r hat=>Nat.lt_of_lt_of_le (h.low loc v r hat) hB,h.g⟩
 ·have h1:=h.hr.own loc v r b hat hb
  have h2:=h.low loc v r hat
  exact⟨fun e=>by have:=h1.1 e;omega,fun e=>by omega⟩
 ·have:=h.low l1 v1 r1 h1;omega
theorem zdg(hmo:P.follows .mixedOrders=true)(hng:zff P){hk:zG}(hh:HOK P hgl Gg hk)(hL:Laid P hgl Gg B W0){n f:Nat}{args:List AV}{h h':zb}{v:AV}
  (hc:wx P (zC P hk n) f args hgl=some (.ret v h')) (ha:args.all AV.kO=true) (hs:v.zkY=true):zdb P B W0 f args h (.ret v h):=by
 intro G us w hx hr hg
 left
 have hL':Laid P hgl Gg w.heap.size w:=hL.at hg.low hr.base hr.base (Nat.le_refl _)
 have hg':kS P w.heap.size w Gg w:=⟨hL.g,fun _ _=>rfl⟩
 obtain⟨h1,h2⟩:=wy hng (jh hmo hng (hh _ _ hL') n).1 (jh hmo hng (hh _ _ hL') n).2.2 hc (VL.kO ha hx) hL'.hr hg'
 refine⟨h1.mono fun e w' hcr=>?_,h2⟩
 obtain⟨G',hS,u,hv,rfl⟩:=hcr
 refine⟨G,Step.grow hr hS.fr.size (fun b hb=>hS.fr.low b hb fun loc v r hat hB e=>?_) hS.fr.os hS.fr.tape hS.fr.output,u,V.zkY hs hv,rfl⟩
 have:=hL'.low _ _ _ hat;omega
theorem zfI(tab:List (FuncId×XK))(h:∀ f k,(f,k) ∈ tab->XFn P f k):HOK P hgl Gg (ziV tab):=fun B W0 _=>ziW h B W0
def wc(hk:zG)(f:FuncId)(g:List AV->zb->Option CR):zG:=fun k=>match Nat.beq k f with
 |true=>some g
 |false=>hk k
theorem zfH{hk:zG}(hh:HOK P hgl Gg hk){f:FuncId}{g:List AV->zb->Option CR}(hg:∀ B W0,Laid P hgl Gg B W0->∀ args h r,g args h=some r->zdb P B W0 f args h r):HOK P hgl Gg (wc hk f g):=by
 intro B W0 hL f' g' hg' args h r hr
 unfold wc at hg'
 cases hb:Nat.beq f' f with
 |true=>
  rw[hb] at hg'
  cases hg'
  have:=Nat.eq_of_beq_eq_true hb
  subst this
  exact hg B W0 hL args h r hr
 |false=>rw[hb] at hg';exact hh B W0 hL f' g' hg' args h r hr
end
section
variable {P:Program} {G:Gh} {B:Nat} {h:zb} {w:World}
theorem HR.zj6{blk:Blk}{r:Ver}(hr:HR G B h w)(ho:blk.own=false)(hlt:r.b<B)(hB:zfd (G++[[r]]) w blk [r]):HR (G++[[r]]) B (h++[blk]) w:=by
 have hone:∀ (v:Nat) (r':Ver),[r][v]?=some r'->r'=r:=by
  intro v r' hv
  cases v with
  |zero=>simp at hv;exact hv.symm
  |succ v=>simp at hv
 refine⟨by rw[Arr.zj,List.length_append,hr.len];rfl,?_,?_,?_,?_,hr.base⟩
 ·intro loc b vs' hl hg
  by_cases hlt:loc<h.length
  ·rw[Arr.zA hlt] at hl
   rw[List.getElem?_append_left (by rw[hr.len];exact hlt)] at hg
   exact(hr.blk loc b vs' hl hg).mono (Gh.jH _ _) fun v r hv=>rfl
  ·have hle:loc=h.length:=by
    have:=Arr.lt hl;rw[Arr.zj] at this;simp at this;omega
   subst hle
   rw[Arr.zg (by omega)] at hl
   rw[List.getElem?_append_right (by rw[hr.len];omega),hr.len] at hg
   simp at hl hg
   subst hl;subst hg;exact hB
 ·intro loc v r' hat
  rcases jm hat with hat|⟨_,hat⟩
  ·exact hr.lt _ _ _ hat
  ·rw[hone _ _ hat];exact Nat.lt_of_lt_of_le hlt hr.base
 ·intro loc v r' b hat hl
  rcases jm hat with hat|⟨hl',hat'⟩
  ·obtain⟨b',_,hb',_⟩:=hr.get hat
   have hlt:=Arr.lt hb'
   rw[Arr.zA hlt] at hl
   exact hr.own _ _ _ _ hat hl
  ·rw[hl',hr.len,Arr.zg (by omega)] at hl
   simp at hl;subst hl
   rw[ho,hone _ _ hat']
   exact Iff.intro (fun e=>by cases e) (fun e=>by omega)
 ·intro l1 l2 v1 v2 r1 r2 ha1 ha2 hB1 he
  rcases jm ha1 with h1|⟨e1,h1⟩<;>rcases jm ha2 with h2|⟨e2,h2⟩
  ·exact hr.apart _ _ _ _ _ _ h1 h2 hB1 he
  ·rw[hone _ _ h2] at he;omega
  ·rw[hone _ _ h1] at hB1;omega
  ·exact e1.trans e2.symm
theorem HR.kI{xs:List AV}{cs:List Value}{a:Addr}{c:Array Value}{T:TypeId}{fr:Nat×Nat}(hr:HR G B h w)(hlt:a.block<B)(hc:w.heap[a.block]?=some (.cells c T fr))(hx:VL G xs cs)
  (hcs:∀ (j:Nat) (u:Value),cs[j]?=some u->c[j+a.off]?=some u) (hsz:xs.length+a.off<=c.size):
  HR (G++[[⟨a.block,0,xs.length,c.size,a.off⟩]]) B (h++[Blk.lay xs]) w:=by
 refine hr.zj6 rfl hlt (.inr ⟨_,rfl,rfl,rfl,c,T,fr,hc,rfl,hsz,fun p hp=>?_⟩)
 have hp':p<xs.length:=hp
 obtain⟨u,e1,e2⟩:=hx.get (List.getElem?_eq_getElem hp')
 exact⟨_,u,List.getElem?_eq_getElem hp',hcs p u e1,e2.le (Gh.jH _ _)⟩
end
def za2{α:Type}(f:α->zb->Option (List AV×zb)):List α->zb->Option (List AV×zb)
 | [],h=>some ([],h)
 |d::l,h=>match f d h with
  |some (xs,h1)=>match za2 f l h1 with
   |some (ys,h2)=>some (xs++ys,h2)
   |none=>none
  |none=>none
def flush(P:Program):List Field->Nat->Nat->Bool
 | [],o,n=>Nat.beq o n
 |f::l,o,n=>Nat.beq f.offset o&&flush P l (o+P.cellsOf f.type) n
def zia{H:Type}(P:Program):Nat->TypeId->DataW H->zb->Option (List AV×zb)
 |0,_,_,_=>none
 |n+1,t,d,h=>match P.underlying t,d with
  |some .bool,.lit (.bool b)=>some ([.bool b],h)
  |some (.int _),.lit (.int k m)=>some ([.int k m],h)
  |some .string,.lit (.string l)=>some ([.str l],h)
  |some (.pointer _),.nil=>some ([.xA],h)
  |some (.pointer e),.ptr d=>match zia P n e d h with
   |some (x::xs,h')=>some ([.ptr h'.length 0 0 (xs.length+1)],h'++[Blk.lay (x::xs)])
   |_=>none
  |some (.slice _),.nil=>some ([.zZ],h)
  |some (.slice e),.slice (d::l) _=>match za2 (zia P n e) (d::l) h with
   |some (x::xs,h')=>some ([.sl h'.length 0 (l.length+1) (P.cellsOf e) 0 false],h'++[Blk.lay (x::xs)])
   |_=>none
  |some (.slice e),.slice [] _=>if Nat.blt 0 (P.cellsOf e)=true then some ([.sl h.length 0 0 (P.cellsOf e) 0 false],h++[Blk.lay []]) else none
  |some (.struct fs),.agg ds=>if flush P fs.toList 0 (P.cellsOf t)=true/\ds.length=fs.size then za2 (fun p=>zia P n p.1.type p.2) (fs.toList.zip ds) h else none
  |some (.array m e),.agg ds=>if m*P.cellsOf e=P.cellsOf t/\ds.length=m then za2 (zia P n e) ds h else none
  |some (.interface _),.nil=>some ([.w8],h)
  |some (.interface _),.iface _ _=>some ([.opq],h)
  |_,_=>none
section
variable {P:Program} {B:Nat} {w:World}
theorem mapM_some{α β:Type}{f:α->Option β}:∀ {l:List α} {r:List β},l.mapM f=some r->r.length=l.length/\∀ (i:Nat) (a:α),l[i]?=some a->∃ b,r[i]?=some b/\f a=some b
 | [],r,h=>by simp at h;subst h;simp
 |x::l,r,h=>by
  simp only[List.mapM_cons,Option.bind_eq_bind,Option.bind_eq_some_iff,Option.pure_def,Option.some.injEq] at h
  obtain⟨b,hb,r',hr',rfl⟩:=h
  obtain⟨h1,h2⟩:=mapM_some hr'
  refine⟨by simp [h1],fun i a ha=>?_⟩
  cases i with
  |zero=>simp at ha;subst ha;exact⟨b,rfl,hb⟩
  |succ i=>simpa using h2 i a (by simpa using ha)
theorem ja{base n:Nat}{a:Addr}{cs:List Value}(h:w.cells? base a n=some cs):cs.length=n/\∀ (j:Nat) (u:Value),cs[j]?=some u->w.cell? (a.add j)=some u:=by
 unfold World.cells? at h
 split at h
 ·obtain⟨h1,h2⟩:=mapM_some h
  rw[List.length_range] at h1
  refine⟨h1,fun j u hu=>?_⟩
  have hj:j<n:=by rw[<- h1];exact(List.getElem?_eq_some_iff.1 hu).1
  obtain⟨b,e1,e2⟩:=h2 j j (by simp [hj])
  rw[hu] at e1;cases e1
  exact e2
 ·cases h
theorem zaR{a:Addr}{u:Value}(h:w.cell? a=some u):∃ c T fr,w.heap[a.block]?=some (.cells c T fr)/\a.spot=none/\c[a.off]?=some u:=by
 unfold World.cell? at h
 split at h
 ·rename_i c T fr hb
  split at h
  ·cases h
  ·rename_i hs
   exact⟨c,T,fr,hb,by cases hsp:a.spot<;>simp_all,h⟩
 ·cases h
theorem qf(a:Addr)(j:Nat):(a.add j).block=a.block/\(a.add j).off=a.off+j:=by
 unfold Addr.add
 split
 ·subst_vars;exact⟨rfl,rfl⟩
 ·exact⟨rfl,rfl⟩
theorem qC{base n:Nat}{a:Addr}{cs:List Value}(h:w.cells? base a n=some cs)(hn:0<n):∃ c T fr,w.heap[a.block]?=some (.cells c T fr)/\a.spot=none/\(∀ (j:Nat) (u:Value),cs[j]?=some u->c[j+a.off]?=some u)/\n+a.off<=c.size:=by
 obtain⟨h1,h2⟩:=ja h
 have h0:=h2 0 _ (List.getElem?_eq_getElem (by omega))
 obtain⟨c,T,fr,e1,e2,e3⟩:=zaR h0
 have ha0:a.add 0=a:=by simp [Addr.add]
 rw[ha0] at e1 e2
 have hall:∀ (j:Nat) (u:Value),cs[j]?=some u->c[j+a.off]?=some u:=by
  intro j u hu
  obtain⟨c',T',fr',f1,_,f3⟩:=zaR (h2 j u hu)
  rw[(qf a j).1,e1] at f1
  cases f1
  rw[(qf a j).2,Nat.add_comm] at f3
  exact f3
 refine⟨c,T,fr,e1,e2,hall,?_⟩
 have hl:=hall (n-1) _ (List.getElem?_eq_getElem (by omega))
 have:=(Array.getElem?_eq_some_iff.1 hl).1
 omega
def Gh.ext(G G':Gh):Prop:=∃ E,G'=G++E
theorem Gh.zr(G:Gh):G.ext G:=⟨[],by simp⟩
theorem Gh.ext.trans{a b c:Gh}(h:a.ext b)(k:b.ext c):a.ext c:=by
 obtain⟨E,rfl⟩:=h
 obtain⟨F,rfl⟩:=k
 exact⟨E++F,by rw[List.append_assoc]⟩
theorem Gh.ext.le{a b:Gh}(h:a.ext b):a.le b:=by
 obtain⟨E,rfl⟩:=h
 intro loc v r hat
 unfold Gh.at at *
 cases hg:a[loc]? with
 |none=>rw[hg] at hat;cases hat
 |some vs=>rw[hg] at hat;rw[List.getElem?_append_left (List.getElem?_eq_some_iff.1 hg).1,hg];exact hat
theorem Gh.ext.get{a b:Gh}(h:a.ext b){loc:Nat}{vs:List Ver}(hg:a[loc]?=some vs):b[loc]?=some vs:=by
 obtain⟨E,rfl⟩:=h
 rw[List.getElem?_append_left (List.getElem?_eq_some_iff.1 hg).1];exact hg
theorem Gh.jP(G:Gh)(vs:List Ver):G.ext (G++[vs]):=⟨[vs],rfl⟩
theorem qP{α:Type}{f:α->zb->Option (List AV×zb)}{Q:α->List Value->Prop}
  (hf:∀ d h xs h' G,HR G B h w->f d h=some (xs,h')->∀ cs,Q d cs->∃ G',HR G' B h' w/\G.ext G'/\VL G' xs cs):
  ∀ {ds:List α} {h h':zb} {xs:List AV} {G:Gh} {css:List (List Value)},HR G B h w->za2 f ds h=some (xs,h')->css.length=ds.length->(∀ (i:Nat) (d:α) (cs:List Value),ds[i]?=some d->css[i]?=some cs->Q d cs) ->
   ∃ G',HR G' B h' w/\G.ext G'/\VL G' xs css.flatten
 | [],h,h',xs,G,css,hr,hl,hlen,_=>by
  cases hl
  have:css=[]:=List.eq_nil_of_length_eq_zero hlen
  subst this
  exact⟨G,hr,Gh.zr _,.nil⟩
 |d::ds,h,h',xs,G,css,hr,hl,hlen,hq=>by
  cases css with
  |nil=>simp at hlen
  |cons cs css=>
   unfold za2 at hl
   split at hl
   ·rename_i ys h1 h2
    split at hl
    ·rename_i zs h3 h4
     cases hl
     obtain⟨G1,r1,l1,v1⟩:=hf d h ys h1 G hr h2 cs (hq 0 d cs rfl rfl)
     obtain⟨G2,r2,l2,v2⟩:=qP hf (css:=css) r1 h4 (by simpa using hlen) (fun i d' cs' e1 e2=>hq (i+1) d' cs' (by simpa using e1) (by simpa using e2))
     exact⟨G2,r2,l1.trans l2,(v1.le l2.le).append v2⟩
    ·cases hl
   ·cases hl
theorem zdk{c:Array Value}{sz:Nat}:∀ {css:List (List Value)} {o:Nat},(∀ (i:Nat) (cs:List Value),css[i]?=some cs->cs.length=sz/\∀ (k:Nat) (u:Value),cs[k]?=some u->c[k+(o+i*sz)]?=some u) ->
  css.flatten.length=css.length*sz/\∀ (j:Nat) (u:Value),css.flatten[j]?=some u->c[j+o]?=some u
 | [],o,_=>by simp
 |cs::css,o,h=>by
  obtain⟨h1,h2⟩:=h 0 cs rfl
  obtain⟨h3,h4⟩:=zdk (css:=css) (o:=o+sz) (c:=c) (sz:=sz) (fun i cs' hi=>by
   obtain⟨q1,q2⟩:=h (i+1) cs' (by simpa using hi)
   refine⟨q1,fun k u hu=>?_⟩
   have:=q2 k u hu
   rwa [show o+(i+1)*sz=o+sz+i*sz from by rw[Nat.add_mul];omega] at this)
  refine⟨by simp only[List.flatten_cons,List.length_append,List.length_cons,h1,h3,Nat.add_mul];omega,fun j u hu=>?_⟩
  rw[List.flatten_cons,List.getElem?_append] at hu
  split at hu
  ·have:=h2 j u hu
   simpa using this
  ·rename_i hge
   have:=h4 _ u hu
   rwa [h1,show j-sz+(o+sz)=j+o from by omega] at this
theorem kr{cs:List Value}:∀ {l:List Field} {o n:Nat},flush P l o n=true->cs.length=n->o<=n->(l.map fun f=>(cs.drop f.offset).take (P.cellsOf f.type)).flatten=cs.drop o
 | [],o,n,h,hl,ho=>by
  have:=Nat.eq_of_beq_eq_true h
  simp;omega
 |f::l,o,n,h,hl,ho=>by
  simp only[flush,Bool.and_eq_true] at h
  have he:=Nat.eq_of_beq_eq_true h.1
  by_cases hle:o+P.cellsOf f.type<=n
  ·have ih:=kr (cs:=cs) h.2 hl hle
   simp only[List.map_cons,List.flatten_cons]
   rw[ih,he,<- List.drop_drop]
   exact List.take_append_drop _ _
  ·exfalso
   have:∀ (l:List Field) (o:Nat),flush P l o n=true->o<=n:=by
    intro l
    induction l with
    |nil=>intro o h;have:=Nat.eq_of_beq_eq_true h;omega
    |cons f l ih=>intro o h;simp only[flush,Bool.and_eq_true] at h;have:=ih _ h.2;omega
   exact hle (this l _ h.2)
theorem trod_array{H:Type}{enc:TypeId×Value->H}{base:Nat}{sp:Nat->Bool}{held:Bool}{fuel k:Nat}{t e:TypeId}{cs:List Value}{x:DataW H×List MemPlace}(ht:P.underlying t=some (.array k e))(h:DataW.trod enc P w base sp held fuel t cs=some x):
  ∃ (xs:List (DataW H×List MemPlace)) (n:Nat),fuel=n+1/\x.1=.agg (xs.map (·.1))/\cs.length=P.cellsOf t/\xs.length=k/\∀ i,i<k->DataW.trod enc P w base sp held n e ((cs.drop (i*P.cellsOf e)).take (P.cellsOf e))=xs[i]?:=by
 cases fuel with
 |zero=>simp [DataW.trod] at h
 |succ n=>
  unfold DataW.trod at h
  rw[ht] at h
  simp only at h
  split at h
  ·rename_i hlen
   obtain⟨xs,h1,h2⟩:=Option.map_eq_some_iff.1 h
   obtain⟨h3,h4⟩:=mapM_some h1
   rw[List.length_range] at h3
   subst h2
   refine⟨xs,n,rfl,rfl,hlen,h3,fun i hi=>?_⟩
   obtain⟨b,e1,e2⟩:=h4 i i (by simp [hi])
   rw[e2,e1]
  ·cases h
theorem zaP{H:Type}{enc:TypeId×Value->H}{base:Nat}{sp:Nat->Bool}{held:Bool}{fuel:Nat}{t:TypeId}{ms:Array (String×TypeId)}{cs:List Value}{p:List MemPlace}(ht:P.underlying t=some (.interface ms))(h:DataW.trod enc P w base sp held fuel t cs=some (.nil,p)):cs=[.nilIface]:=by
 cases fuel with
 |zero=>simp [DataW.trod] at h
 |succ n=>
  unfold DataW.trod at h
  rw[ht] at h
  split at h<;>first|(cases h;done)|skip
  all_goals first
   |rfl
   |(exfalso;simp_all;done)
   |(exfalso;split at h<;>simp_all;done)
theorem zas{H:Type}{enc:TypeId×Value->H}{base:Nat}{sp:Nat->Bool}{held:Bool}{fuel:Nat}{t:TypeId}{ms:Array (String×TypeId)}{cs:List Value}{p:List MemPlace}{nm:String}{d:DataW H}(ht:P.underlying t=some (.interface ms))(h:DataW.trod enc P w base sp held fuel t cs=some (.iface nm d,p)):∃ u v,cs=[.iface u v]:=by
 cases fuel with
 |zero=>simp [DataW.trod] at h
 |succ n=>
  match cs with
  | []=>simp [DataW.trod,ht] at h
  |_::_::_=>simp [DataW.trod,ht] at h
  | [c]=>
   cases c<;>simp [DataW.trod,ht] at h
   exact⟨_,_,rfl⟩
theorem zaQ{cs:List Value}{sz:Nat}:∀ {k o:Nat},cs.length=o+k*sz->((List.range k).map fun i=>(cs.drop (o+i*sz)).take sz).flatten=cs.drop o
 |0,o,h=>by simp;omega
 |k+1,o,h=>by
  have ih:=zaQ (cs:=cs) (sz:=sz) (k:=k) (o:=o+sz) (by rw[h,Nat.add_mul];omega)
  rw[List.range_succ_eq_map,List.map_cons,List.flatten_cons,List.map_map]
  have e:((fun i=>(cs.drop (o+i*sz)).take sz) ∘ Nat.succ)=fun i=>(cs.drop (o+sz+i*sz)).take sz:=by
   funext i
   simp only[Function.comp]
   rw[show o+i.succ*sz=o+sz+i*sz from by rw[Nat.succ_eq_add_one,Nat.add_mul];omega]
  rw[e,ih,Nat.zero_mul,Nat.add_zero,<- List.drop_drop]
  exact List.take_append_drop _ _
theorem zco{H:Type}{enc:TypeId×Value->H}{base:Nat}{held:Bool}(hB:B=w.heap.size)(hz:∃ (b0:Nat) (c:Array Value) (T:TypeId) (fr:Nat×Nat),w.heap[b0]?=some (.cells c T fr)):∀ (m:Nat) (t:TypeId) (d:DataW H) (h:zb) (xs:List AV) (h':zb) (G:Gh),HR G B h w->zia P m t d h=some (xs,h') ->
  ∀ cs,(∃ n p,DataW.trod enc P w base (fun _=>true) held n t cs=some (d,p))->∃ G',HR G' B h' w/\G.ext G'/\VL G' xs cs
 |0,t,d,h,xs,h',G,hr,hl,cs,_=>by simp [zia] at hl
 |m+1,t,d,h,xs,h',G,hr,hl,cs,⟨n,p,ht⟩=>by
  have ih:=fun t d h xs h' G=>zco (enc:=enc) (base:=base) (held:=held) hB hz m t d h xs h' G
  unfold zia at hl
  split at hl
  ·rename_i b hu
   cases hl
   obtain⟨b',rfl,e⟩:=DataW.trod_bool hu ht
   cases e
   exact⟨G,hr,Gh.zr _,.cons (.bool _) .nil⟩
  ·rename_i k0 k z hu
   cases hl
   obtain⟨b',rfl,e,_⟩:=DataW.trod_int hu ht
   cases e
   exact⟨G,hr,Gh.zr _,.cons (.int _ _) .nil⟩
  ·rename_i l hu
   cases hl
   obtain⟨b',rfl,e,_⟩:=DataW.trod_string hu ht
   cases e
   exact⟨G,hr,Gh.zr _,.cons (.str b'.data.toList) .nil⟩
  ·rename_i e hu
   cases hl
   rcases DataW.trod_pointer hu ht with⟨rfl,_⟩|⟨a,cs',y,n',rfl,rfl,he,_⟩
   ·exact⟨G,hr,Gh.zr _,.cons .xA .nil⟩
   ·cases he
  ·rename_i e d' hu
   split at hl
   ·rename_i x xs h1 hl1
    cases hl
    rcases DataW.trod_pointer hu ht with⟨rfl,he⟩|⟨a,cs',y,n',rfl,rfl,he,hc,hy⟩
    ·cases he
    ·cases he
     obtain⟨G1,r1,l1,v1⟩:=ih e _ h _ _ G hr hl1 cs' ⟨n',_,hy⟩
     have hlen:=v1.length
     have hcl:=(ja hc).1
     simp only[List.length_cons] at hlen
     obtain⟨c,T,fr,q1,q2,q3,q4⟩:=qC hc (by omega)
     have hlt:a.block<B:=by rw[hB];exact(Array.getElem?_eq_some_iff.1 q1).1
     have hr2:=r1.kI hlt q1 v1 q3 (by simp only[List.length_cons];omega)
     refine⟨_,hr2,l1.trans (Gh.jP _ _),.cons ?_ .nil⟩
     have hV:=V.ptr (G:=G1++[[⟨a.block,0,(x::xs).length,c.size,a.off⟩]]) (loc:=h1.length) (off:=0) (ver:=0) (lim:=xs.length+1) (r:=⟨a.block,0,(x::xs).length,c.size,a.off⟩) (by rw[<- r1.len,qN];rfl) (Nat.le_refl _) (Nat.le_refl _)
     obtain⟨ab,ao,as1⟩:=a
     simp only at q2
     subst q2
     simpa using hV
   ·cases hl
  ·rename_i e hu
   cases hl
   rcases DataW.trod_slice hu ht with⟨rfl,_⟩|⟨a,len,cap,el,rs,n',rfl,rfl,he,_⟩
   ·exact⟨G,hr,Gh.zr _,.cons .zZ .nil⟩
   ·cases he
  ·rename_i e d0 l sp hu
   split at hl
   ·rename_i x xs h1 hl1
    cases hl
    rcases DataW.trod_slice hu ht with⟨rfl,he⟩|⟨a,len,cap,el,rs,n',rfl,rfl,he,hba,hlc,hcm,hel,hee,hsp,_⟩
    ·cases he
    ·simp only[Prod.mk.injEq,DataW.slice.injEq] at he
     obtain⟨⟨he1,he2⟩,_⟩:=he
     have hln:len=l.length+1:=by rw[<- hel,<- show(el.map (·.1)).length=el.length from List.length_map _,<- he1];rfl
     obtain⟨hrl,hrr⟩:=hsp rfl
     generalize hsz:P.cellsOf e=sz at *
     have hcell:∀ i,i<cap->∃ cs',w.cells? base (a.add (i*sz)) sz=some cs':=by
      intro i hi
      by_cases hil:i<len
      ·have h0:=hee i hil
       rw[List.getElem?_eq_getElem (by omega)] at h0
       obtain⟨cs',e1,_⟩:=Option.bind_eq_some_iff.1 h0
       exact⟨cs',e1⟩
      ·have h0:=hrr (i-len) (by omega)
       rw[List.getElem?_eq_getElem (by omega),show len+(i-len)=i from by omega] at h0
       obtain⟨cs',e1,_⟩:=Option.bind_eq_some_iff.1 h0
       exact⟨cs',e1⟩
     obtain⟨G1,r1,l1,v1⟩:=qP (Q:=fun(d:DataW H) cs=>∃ n q,DataW.trod enc P w base (fun _=>true) held n e cs=some (d,q)) (fun d h xs h' G hr hl cs hq=>ih e d h xs h' G hr hl cs hq) hr hl1
      (css:=(List.range len).map fun i=>(w.cells? base (a.add (i*sz)) sz).getD []) (by simp [hln]) (fun i d cs' e1 e2=>by
       rw[List.getElem?_map,Option.map_eq_some_iff] at e2
       obtain⟨j,e3,rfl⟩:=e2
       have hik:i<len:=by
        have:=(List.getElem?_eq_some_iff.1 e1).1
        simp only[List.length_cons] at this
        omega
       rw[List.getElem?_range hik] at e3
       cases e3
       rw[he1,List.getElem?_map,Option.map_eq_some_iff] at e1
       obtain⟨y,e6,e7⟩:=e1
       have h0:=hee i hik
       rw[e6] at h0
       obtain⟨cs2,f1,f2⟩:=Option.bind_eq_some_iff.1 h0
       rw[f1]
       exact⟨n',y.2,by rw[<- e7];exact f2⟩)
     have hvl:=v1.length
     have hpos:0<sz:=by
      rcases Nat.eq_zero_or_pos sz with h0|h0
      ·exfalso
       have:((List.range len).map fun i=>(w.cells? base (a.add (i*sz)) sz).getD []).flatten=[]:=by
        rw[List.flatten_eq_nil_iff]
        intro q hq
        obtain⟨i,hi,rfl⟩:=List.mem_map.1 hq
        obtain⟨cs',e1⟩:=hcell i (by have:=List.mem_range.1 hi;omega)
        rw[e1]
        have:=(ja e1).1
        exact List.eq_nil_of_length_eq_zero (by show cs'.length=0;omega)
       rw[this] at hvl
       simp at hvl
      ·exact h0
     obtain⟨c0,ec0⟩:=hcell 0 (by omega)
     obtain⟨c,T,fr,q1,q2,_,_⟩:=qC ec0 hpos
     rw[(qf a _).1] at q1
     have ha0:a.add (0*sz)=a:=by simp [Addr.add]
     rw[ha0] at q2
     have hrow:∀ i,i<cap->∀ cs',w.cells? base (a.add (i*sz)) sz=some cs'->cs'.length=sz/\(∀ (k:Nat) (u:Value),cs'[k]?=some u->c[k+(a.off+i*sz)]?=some u)/\sz+(a.off+i*sz)<=c.size:=by
      intro i hi cs' ec
      obtain⟨c2,T2,fr2,g1,_,g3,g4⟩:=qC ec hpos
      rw[(qf a _).1,q1] at g1
      cases g1
      rw[(qf a _).2] at g3 g4
      exact⟨(ja ec).1,g3,g4⟩
     obtain⟨fl1,fl2⟩:=zdk (c:=c) (sz:=sz) (o:=a.off) (css:=(List.range len).map fun i=>(w.cells? base (a.add (i*sz)) sz).getD []) (fun i cs' e2=>by
      rw[List.getElem?_map,Option.map_eq_some_iff] at e2
      obtain⟨j,e3,rfl⟩:=e2
      have hik:i<len:=by have:=(List.getElem?_eq_some_iff.1 e3).1;simpa using this
      rw[List.getElem?_range hik] at e3
      cases e3
      obtain⟨cs',ec⟩:=hcell i (by omega)
      rw[ec]
      obtain⟨k1,k2,_⟩:=hrow i (by omega) cs' ec
      exact⟨k1,k2⟩)
     rw[List.length_map,List.length_range] at fl1
     obtain⟨csl,ecl⟩:=hcell (cap-1) (by omega)
     obtain⟨_,_,hend⟩:=hrow (cap-1) (by omega) csl ecl
     have hcapsz:cap*sz=sz+(cap-1)*sz:=by
      obtain⟨k,rfl⟩:∃ k,cap=k+1:=⟨cap-1,by omega⟩
      rw[Nat.add_mul];simp;omega
     have hlensz:len*sz<=cap*sz:=Nat.mul_le_mul_right _ hlc
     have hlt:a.block<B:=by rw[hB];exact(Array.getElem?_eq_some_iff.1 q1).1
     have hxl:(x::xs).length=len*sz:=by rw[<- hvl,fl1]
     have hr2:=r1.kI hlt q1 v1 fl2 (by omega)
     refine⟨_,hr2,l1.trans (Gh.jP _ _),.cons ?_ .nil⟩
     have hV:=V.sl (G:=G1++[[⟨a.block,0,(x::xs).length,c.size,a.off⟩]]) (loc:=h1.length) (off:=0) (len:=len) (sz:=sz) (ver:=0) (cap:=cap) (clip:=false) (r:=⟨a.block,0,(x::xs).length,c.size,a.off⟩) (by rw[<- r1.len,qN];rfl) (Nat.le_refl _) (by show 0+len*sz<=(x::xs).length;omega) hlc
      (by show 0+a.off-0+cap*sz<=c.size;omega) (fun e=>by cases e) (fun _=>by show(x::xs).length<=0+cap*sz;omega) hcm hpos
     obtain⟨ab,ao,as1⟩:=a
     simp only at q2
     subst q2
     rw[<- hln]
     simpa using hV
   ·cases hl
  ·rename_i e rs0 hu
   split at hl
   ·rename_i hpos
    cases hl
    have hpos:0<P.cellsOf e:=by simpa [Nat.blt_eq] using hpos
    rcases DataW.trod_slice hu ht with⟨rfl,he⟩|⟨a,len,cap,el,rs,n',rfl,rfl,he,hba,hlc,hcm,hel,hee,hsp,_⟩
    ·cases he
    ·simp only[Prod.mk.injEq,DataW.slice.injEq] at he
     obtain⟨⟨he1,he2⟩,_⟩:=he
     have hln:len=0:=by rw[<- hel,<- show(el.map (·.1)).length=el.length from List.length_map _,<- he1];rfl
     subst hln
     obtain⟨hrl,hrr⟩:=hsp rfl
     rcases Nat.eq_zero_or_pos cap with h0|h0
     ·subst h0
      obtain⟨b0,c,T,fr,hb0⟩:=hz
      have hr2:=hr.kI (a:=⟨b0,0,none⟩) (xs:=[]) (cs:=[]) (by show b0<B;rw[hB];exact(Array.getElem?_eq_some_iff.1 hb0).1) hb0 .nil (fun j u hu=>by simp at hu) (by simp)
      refine⟨_,hr2,Gh.jP _ _,.cons ?_ .nil⟩
      exact V.sl0 (r:=⟨b0,0,0,c.size,0⟩) (by rw[<- hr.len,qN];rfl) (Nat.le_refl _) (Nat.le_refl _) (fun _=>Nat.le_refl _) hpos
     ·have hc:∀ i,i<cap->∃ cs',w.cells? base (a.add (i*P.cellsOf e)) (P.cellsOf e)=some cs':=by
       intro i hi
       have h0:=hrr i (by omega)
       rw[List.getElem?_eq_getElem (by omega),Nat.zero_add] at h0
       obtain⟨cs',e1,_⟩:=Option.bind_eq_some_iff.1 h0
       exact⟨cs',e1⟩
      obtain⟨c0,ec0⟩:=hc 0 h0
      obtain⟨c,T,fr,q1,q2,_,_⟩:=qC ec0 hpos
      have ha0:a.add (0*P.cellsOf e)=a:=by simp [Addr.add]
      rw[ha0] at q1 q2
      obtain⟨csl,ecl⟩:=hc (cap-1) (by omega)
      obtain⟨c2,T2,fr2,g1,_,_,g4⟩:=qC ecl hpos
      rw[(qf a _).1,q1] at g1
      cases g1
      rw[(qf a _).2] at g4
      have hcapsz:cap*P.cellsOf e=P.cellsOf e+(cap-1)*P.cellsOf e:=by
       obtain⟨k,rfl⟩:∃ k,cap=k+1:=⟨cap-1,by omega⟩
       rw[Nat.add_mul];simp;omega
      have hlt:a.block<B:=by rw[hB];exact(Array.getElem?_eq_some_iff.1 q1).1
      have hr2:=hr.kI (a:=a) (xs:=[]) (cs:=[]) hlt q1 .nil (fun j u hu=>by simp at hu) (by simp only[List.length_nil];omega)
      refine⟨_,hr2,Gh.jP _ _,.cons ?_ .nil⟩
      have hV:=V.sl (G:=G++[[⟨a.block,0,0,c.size,a.off⟩]]) (loc:=h.length) (off:=0) (len:=0) (sz:=P.cellsOf e) (ver:=0) (cap:=cap) (clip:=false) (r:=⟨a.block,0,0,c.size,a.off⟩) (by rw[<- hr.len,qN];rfl) (Nat.le_refl _) (by simp) hlc
       (by show 0+a.off-0+cap*P.cellsOf e<=c.size;omega) (fun e=>by cases e) (fun _=>Nat.zero_le _) hcm hpos
      obtain⟨ab,ao,as1⟩:=a
      simp only at q2
      subst q2
      simpa using hV
   ·cases hl
  ·rename_i fs ds hu
   split at hl
   ·rename_i hq
    obtain⟨ys,n',rfl,he,hlen,hyl,hy⟩:=DataW.trod_struct hu ht
    cases he
    have hfl:=kr (cs:=cs) hq.1 hlen (Nat.zero_le _)
    rw[List.drop_zero] at hfl
    obtain⟨G1,r1,l1,v1⟩:=qP (Q:=fun(p:Field×DataW H) cs=>∃ n q,DataW.trod enc P w base (fun _=>true) held n p.1.type cs=some (p.2,q)) (fun d h xs h' G hr hl cs hq=>ih d.1.type d.2 h xs h' G hr hl cs hq) hr hl
     (css:=fs.toList.map fun f=>(cs.drop f.offset).take (P.cellsOf f.type)) (by simp [hyl]) (fun i d cs' e1 e2=>by
      rw[List.getElem?_map,Option.map_eq_some_iff] at e2
      obtain⟨f,e3,rfl⟩:=e2
      rw[List.getElem?_zip_eq_some] at e1
      rw[e3] at e1
      obtain⟨e4,e5⟩:=e1
      cases e4
      rw[List.getElem?_map,Option.map_eq_some_iff] at e5
      obtain⟨y,e6,e7⟩:=e5
      have:=hy i d.1 (by simpa using e3)
      rw[e6] at this
      exact⟨n',y.2,by rw[this,<- e7]⟩)
    rw[hfl] at v1
    exact⟨G1,r1,l1,v1⟩
   ·cases hl
  ·rename_i k e ds hu
   split at hl
   ·rename_i hq
    obtain⟨ys,n',rfl,he,hlen,hyl,hy⟩:=trod_array hu ht
    simp only at he
    cases he
    have hfl:=zaQ (cs:=cs) (sz:=P.cellsOf e) (k:=k) (o:=0) (by rw[hlen,hq.1];omega)
    simp only[Nat.zero_add,List.drop_zero] at hfl
    obtain⟨G1,r1,l1,v1⟩:=qP (Q:=fun(d:DataW H) cs=>∃ n q,DataW.trod enc P w base (fun _=>true) held n e cs=some (d,q)) (fun d h xs h' G hr hl cs hq=>ih e d h xs h' G hr hl cs hq) hr hl
     (css:=(List.range k).map fun i=>(cs.drop (i*P.cellsOf e)).take (P.cellsOf e)) (by simp [hyl]) (fun i d cs' e1 e2=>by
      rw[List.getElem?_map,Option.map_eq_some_iff] at e1 e2
      obtain⟨y,e6,e7⟩:=e1
      obtain⟨j,e3,rfl⟩:=e2
      have hik:i<k:=by rw[<- hyl];exact(List.getElem?_eq_some_iff.1 e6).1
      rw[List.getElem?_range hik] at e3
      cases e3
      have:=hy i hik
      rw[e6] at this
      exact⟨n',y.2,by rw[this,<- e7]⟩)
    rw[hfl] at v1
    exact⟨G1,r1,l1,v1⟩
   ·cases hl
  ·rename_i ms hu
   cases hl
   have:=zaP hu ht
   subst this
   exact⟨G,hr,Gh.zr _,.cons .w8 .nil⟩
  ·rename_i ms nm d hu
   cases hl
   obtain⟨u,v,rfl⟩:=zas hu ht
   exact⟨G,hr,Gh.zr _,.cons (.opq u v) .nil⟩
  ·cases hl
theorem HR.zkj{G:Gh}{h:zb}{loc:Nat}{blk blk':Blk}{vs:List Ver}(hr:HR G B h w)(hl:h[loc]?=some blk)(ho:blk.own=false)(ho':blk'.own=false)(hg:G[loc]?=some vs)(hB:zfd G w blk' vs):HR G B (h.set loc blk') w:=by
 have hlt:=Arr.lt hl
 refine⟨by rw[Arr.length_set];exact hr.len,fun l b vs' h1 h2=>?_,hr.lt,fun l v r b hat h1=>?_,hr.apart,hr.base⟩
 ·rw[Arr.zi] at h1
  split at h1
  ·rename_i e
   subst e
   cases h1
   rw[hg] at h2;cases h2
   exact hB
  ·exact hr.blk l b vs' h1 h2
 ·rw[Arr.zi] at h1
  split at h1
  ·rename_i e
   subst e
   cases h1
   have:=hr.own _ _ _ _ hat hl
   rw[ho] at this
   rw[ho']
   exact this
  ·exact hr.own _ _ _ _ hat h1
end
def ku(P:Program)(m:Nat):List (String×DataW Unit)->zb->Option zb
 | [],h=>some h
 |(n,d)::r,h=>match P.globalNamed n with
  |some g=>match P.globals[g]? with
   |some v=>match zia P m v.type d h with
    |some (xs,h1)=>match h1[g]? with
     |some .dead=>if Nat.beq xs.length (P.cellsOf v.type)=true then ku P m r (h1.set g (.lay xs)) else none
     |_=>none
    |none=>ku P m r h
   |none=>none
  |none=>none
def kk(P:Program):Gh:=(List.range P.globals.size).map fun g=>match P.globals[g]? with
 |some v=>[⟨g,0,P.cellsOf v.type,P.cellsOf v.type,0⟩]
 |none=>[]
section
variable {P:Program} {B:Nat} {w:World}
theorem jq(hB:B=w.heap.size)(hz:∃ (b0:Nat) (c:Array Value) (T:TypeId) (fr:Nat×Nat),w.heap[b0]?=some (.cells c T fr))(m:Nat):∀ {l:List (String×DataW Unit)} {ps:List MemPlace} {h h':zb} {G:Gh},DataW.LaidVars P w l ps->ku P m l h=some h'->HR G B h w->(kk P).ext G->∃ G',HR G' B h' w/\G.ext G'
 | [],ps,h,h',G,hp,hl,hr,hx=>by cases hl;exact⟨G,hr,Gh.zr _⟩
 |(n,d)::l,ps,h,h',G,hp,hl,hr,hx=>by
  obtain⟨g,t,cs,fuel,p,q,e1,e2,e3,e4,e5,_⟩:=hp
  unfold ku at hl
  rw[e1] at hl
  simp only at hl
  obtain⟨v,ev,rfl⟩:=Option.map_eq_some_iff.1 e2
  rw[ev] at hl
  simp only at hl
  split at hl
  ·rename_i xs h1 hd
   split at hl
   ·rename_i hdead
    split at hl
    ·rename_i hlen
     have hlen:=Nat.eq_of_beq_eq_true hlen
     obtain⟨G1,r1,x1,v1⟩:=zco hB hz m v.type d h xs h1 G hr hd cs.toList ⟨fuel,p,e4⟩
     have hgl:g<P.globals.size:=(Array.getElem?_eq_some_iff.1 ev).1
     have hgv:(kk P)[g]?=some [⟨g,0,P.cellsOf v.type,P.cellsOf v.type,0⟩]:=by
      unfold kk
      rw[List.getElem?_map,List.getElem?_range hgl]
      simp only[Option.map_some,ev]
     have hgG:=(hx.trans x1).get hgv
     have hcl:=v1.length
     rw[Array.length_toList] at hcl
     obtain⟨c,T,fr,hw,hc⟩:∃ c T fr,w.heap[g]?=some (.cells c T fr)/\c=cs:=by
      unfold World.var? at e3
      rw[e1] at e3
      simp only[Option.bind_some] at e3
      split at e3
      ·rename_i c T fr hb;cases e3;exact⟨_,T,fr,hb,rfl⟩
      ·cases e3
     subst hc
     have hr2:=r1.zkj (blk':=.lay xs) hdead rfl rfl hgG (.inr ⟨_,rfl,rfl,hlen.symm,c,T,fr,hw,by show c.size=P.cellsOf v.type;omega,by show P.cellsOf v.type+0<=P.cellsOf v.type;omega,fun p' hp'=>by
      have hp2:p'<xs.length:=by rw[hlen];exact hp'
      obtain⟨u,f1,f2⟩:=v1.get (List.getElem?_eq_getElem hp2)
      exact⟨_,u,List.getElem?_eq_getElem hp2,by rw[<- Array.getElem?_toList];exact f1,f2⟩⟩)
     obtain⟨G2,r2,x2⟩:=jq hB hz m e5 hl hr2 (hx.trans x1)
     exact⟨G2,r2,x1.trans x2⟩
    ·cases hl
   ·cases hl
  ·exact jq hB hz m e5 hl hr hx
theorem zgU{g:Nat}{vs:List Ver}(h:(kk P)[g]?=some vs):g<P.globals.size/\∃ v,P.globals[g]?=some v/\vs=[⟨g,0,P.cellsOf v.type,P.cellsOf v.type,0⟩]:=by
 have hg:g<P.globals.size:=by have:=(List.getElem?_eq_some_iff.1 h).1;simpa [kk] using this
 have hv:P.globals[g]?=some P.globals[g]:=Array.getElem?_eq_getElem hg
 unfold kk at h
 rw[List.getElem?_map,List.getElem?_range hg] at h
 simp only[Option.map_some,hv,Option.some.injEq] at h
 exact⟨hg,_,hv,h.symm⟩
theorem zb2{g v:Nat}{r:Ver}(h:(kk P).at g v=some r):g<P.globals.size/\r.b=g:=by
 unfold Gh.at at h
 cases hg:(kk P)[g]? with
 |none=>rw[hg] at h;cases h
 |some vs=>
  rw[hg] at h
  obtain⟨h1,x,_,rfl⟩:=zgU hg
  refine⟨h1,?_⟩
  cases v with
  |zero=>simp at h;rw[<- h]
  |succ v=>simp at h
theorem zeG(hn:P.globals.size<=w.heap.size):HR (kk P) w.heap.size (Arr.of (List.replicate P.globals.size .dead)) w:=by
 refine⟨by rw[Arr.zfP];simp [kk],fun loc b vs hb hg=>?_,fun loc v r hat=>?_,fun loc v r b hat hb=>?_,fun l1 l2 v1 v2 r1 r2 h1 _ hB _=>?_,Nat.le_refl _⟩
 ·rw[Arr.zfB,List.getElem?_replicate] at hb
  split at hb
  ·cases hb;trivial
  ·cases hb
 ·have:=zb2 hat;omega
 ·rw[Arr.zfB,List.getElem?_replicate] at hb
  have:=zb2 hat
  split at hb
  ·cases hb
   exact Iff.intro (fun e=>by cases e) (fun e=>by omega)
  ·cases hb
 ·have:=zb2 h1;omega
theorem za1:∀ {laid:List (String×DataW Unit)} {ps:List MemPlace},DataW.LaidVars P w laid ps->laid.isEmpty=false->∃ (b0:Nat) (c:Array Value) (T:TypeId) (fr:Nat×Nat),w.heap[b0]?=some (.cells c T fr)
 | [],_,_,he=>by cases he
 |(n,d)::l,ps,hp,_=>by
  obtain⟨g,t,cs,fuel,p,q,e1,e2,e3,e4,e5,_⟩:=hp
  unfold World.var? at e3
  rw[e1] at e3
  simp only[Option.bind_some] at e3
  split at e3
  ·rename_i c T fr hb;exact⟨g,_,T,fr,hb⟩
  ·cases e3
end
structure zhX(W W':World):Prop where
 os:W'.os=W.os
 output:W'.output=W.output
 size:W.heap.size<=W'.heap.size
 low:∀ b,b<W.heap.size->W'.heap[b]?=W.heap[b]?
theorem zhX.kept{W W':World}(h:zhX W W')(may:MemPlace->Prop):W.keptBut W' may:=by
 refine⟨h.os,h.output,fun i hi=>?_⟩
 rw[h.low i hi]
 cases W.heap[i]? with
 |none=>rfl
 |some o=>cases o<;>first|exact⟨rfl,rfl,rfl,fun _ _=>rfl⟩|exact .inr ⟨rfl,rfl⟩|rfl
theorem zhX.same{W W':World}(h:zhX W W')(p:MemPlace)(hp:p.block<W.heap.size):W.sameAt W' p:=by
 cases p with
 |cell b off=>show W'.cell? _=W.cell? _;unfold World.cell?;rw[h.low b hp]
 |map b=>exact h.low b hp
theorem zfu{G:Gh}{B:Nat}{W W':World}{v:AV}{h':zb}{e:Ending}(hB:B=W.heap.size)(hr:∀ loc v r,G.at loc v=some r->r.b<B)(hc:zhV G B W (.ret v h') e W'):zhX W W'/\∃ G' u,V G' v u/\e=.returned u:=by
 obtain⟨G',hS,u,hv,rfl⟩:=hc
 exact⟨⟨hS.fr.os,hS.fr.output,hS.fr.size,fun b hb=>hS.fr.low b hb fun loc v r hat hBr e=>by have:=hr _ _ _ hat;omega⟩,G',u,hv,rfl⟩
section
variable {H:Type} {enc:TypeId×Value->H} {P:Program}
theorem xj{W W':World}(hg:zhX W W'){base:Nat}{sp:Nat->Bool}{held:Bool}:∀ {ts:List TypeId} {vs:List Value} {ds:List (DataW H)} {ps:List MemPlace},
  DataW.TrodAll enc P W base sp held ts vs ds ps->(∀ p ∈ ps,p.block<W.heap.size)->DataW.TrodAll enc P W' base sp held ts vs ds ps
 | [],[],[],ps,h,_=>h
 |t::ts,v::vs,d::ds,ps,h,hp=>by
  obtain⟨p,q,⟨n,h1⟩,h2,rfl⟩:=h
  exact⟨p,q,⟨n,DataW.trod_carry n _ _ _ h1 fun x hx=>hg.same x (hp x (List.mem_append_left _ hx))⟩,xj hg h2 (fun x hx=>hp x (List.mem_append_right _ hx)),rfl⟩
 | [],[],_::_,_,h,_=>h.elim
 | [],_::_,_,_,h,_=>h.elim
 |_::_,[],_,_,h,_=>h.elim
 |_::_,_::_,[],_,h,_=>h.elim
theorem zgd{fn:Func}{s:ChangeSpec}{W W':World}{args:Array Value}{ds gs:List (DataW H)}{before:List MemPlace}{tb:TypeId}
  (hlo:laidOutB P=true) (hmr:mapsRowed P=true) (hfull:((List.range P.types.size).all fun t=>match P.underlying t with|some (.slice e)=>decide (0<P.cellsOf e)|_=>true)=true)
  (hts:(fn.params.toList.all fun t=>decide (t<P.types.size))=true) (hr:fn.resultTypes=#[tb]) (hb:P.underlying tb=some .bool) (hv:s.vars=[]) (hs:s.fn H ds={ results:=[.lit (.bool true)],args:=ds })
  (hW:DataW.Whole enc P fn.params.toList s.vars false W args.toList ds gs before) (hg:zhX W W'):
  s.post enc P fn false true false false W args (.bool true) W':=by
 have hW0:=hW
 have hlt:=hW.lt
 obtain⟨p,q,hA,hV,rfl,hz,hn⟩:=hW
 rw[hv] at hV
 obtain⟨rfl,rfl⟩:gs=[]/\q=[]:=by
  cases gs with
  |nil=>exact⟨rfl,hV⟩
  |cons=>exact hV.elim
 have hT:∀ t ∈ fn.params.toList,t<P.types.size:=fun t ht=>of_decide_eq_true (List.all_eq_true.1 hts t ht)
 have hA':DataW.TrodAll enc P W 0 (fun b=>decide (b<W.heap.size)) true fn.params.toList args.toList ds p:=
  DataW.TrodAll.respare (kids_rows hlo hmr) (slices_full_of P hfull) hT hA fun x hx=>by simpa using hlt x (List.mem_append_left _ hx)
 refine⟨ds,[],p++[],[],p,[],hW0,?_,?_,?_,hg.kept _,fun e=>by cases e⟩
 ·rw[List.append_nil,hs,hr]
  exact⟨[],[],⟨1,by simp [DataW.trod,hb,Value.cells]⟩,rfl,rfl⟩
 ·rw[List.append_nil,hs]
  exact xj hg hA' fun x hx=>hlt x (List.mem_append_left _ hx)
 ·rw[List.append_nil,hs,hv];rfl
end
section
variable {P:Program} {hgl:zb} {Gg:Gh} {W0 w:World}
end
def kM(v:Bool):Option CR->Bool
 |some (.ret (.bool b) _)=>b==v
 |_=>false
theorem zbb{v:Bool}{o:Option CR}(h:kM v o=true):∃ h',o=some (.ret (.bool v) h'):=by
 unfold kM at h
 split at h
 ·rename_i b h';exact⟨h',by rw[eq_of_beq h]⟩
 ·cases h
section
variable {H:Type} {enc:TypeId×Value->H} {P:Program} {W:World}
theorem ze1{P:Program}{w:World}{g:Nat}{t:TypeId}{zero:Array Value}{k:IntKind}(h:w.ShapedOpen P)(hg:g<P.globals.size)
  (h0:((begin P (fun _ _=>0) default).world.heap[g]?).bind Obj.row?=some (zero,t)) (hz:zero.size=1)
  (hb:P.buildable t=true) (hc:P.cellTypes P.depth t=some [t]) (hu:P.underlying t=some (.int k)):
  ∃ m c T fr,w.heap[g]?=some (.cells c T fr)/\c.size=1/\c[0]?=some (.int k m)/\k.min<=m/\m<=k.max:=by
 obtain⟨cs,hh,hs,hr⟩:=h.1 g zero t hg h0
 obtain⟨ts,hts,_,hall⟩:=hr hb
 rw[hc] at hts
 cases hts
 have h1:0<cs.size:=by omega
 obtain⟨u,hu',hok⟩:=hall 0 cs[0] (by simp [h1])
 have:u=t:=by simpa using hu'.symm
 subst this
 unfold Cell.ok at hok
 rw[hu] at hok
 cases hv:cs[0]<;>rw[hv] at hok<;>simp at hok
 case int k' n=>
  obtain⟨rfl,h2,h3⟩:=hok
  exact⟨n,cs,_,_,hh,by omega,by rw[Array.getElem?_eq_getElem h1,hv],h2,h3⟩
theorem zdV{P:Program}{w:World}(h:w.ShapedOpen P)(h0:((((begin P (fun _ _=>0) default).world.heap[P.globals.size-1]?).bind Obj.row?).isSome&&decide (0<P.globals.size))=true):P.globals.size<=w.heap.size:=by
 simp only[Bool.and_eq_true,decide_eq_true_eq] at h0
 obtain⟨⟨zero,t⟩,h1⟩:=Option.isSome_iff_exists.1 h0.1
 obtain⟨cs,hh,_⟩:=h.1 (P.globals.size-1) zero t (by omega) h1
 have:=(Array.getElem?_eq_some_iff.1 hh).1
 omega
theorem zfM{P:Program}{w:World}{laid:List (String×DataW Unit)}{m:Nat}{hgl:zb}(hn:P.globals.size<=w.heap.size)(hm:laidMet P laid w)(hne:laid.isEmpty=false)(hl:ku P m laid (Arr.of (List.replicate P.globals.size .dead))=some hgl)
  {g:Nat} {c:Array Value} {T:TypeId} {fr:Nat×Nat} {z lo hi:Int} (hd:hgl[g]?=some .dead) (hgt:((P.globals[g]?).map fun v=>P.cellsOf v.type)=some 1) (hc:w.heap[g]?=some (.cells c T fr)) (hcs:c.size=1) (hc0:c[0]?=some (.int .i64 z)) (h1:lo<=z) (h2:z<=hi):
  ∃ Gg,Laid P (hgl.set g (.lay [.iv lo hi])) Gg w.heap.size w:=by
 obtain⟨ps,hv,_⟩:=hm
 obtain⟨G,hr,hx⟩:=jq rfl (za1 hv hne) m hv hl (zeG hn) (Gh.zr _)
 obtain⟨v,ev,ecells⟩:=Option.map_eq_some_iff.1 hgt
 have hgl':g<P.globals.size:=(Array.getElem?_eq_some_iff.1 ev).1
 have hgv:(kk P)[g]?=some [⟨g,0,P.cellsOf v.type,P.cellsOf v.type,0⟩]:=by
  unfold kk
  rw[List.getElem?_map,List.getElem?_range hgl']
  simp only[Option.map_some,ev]
 have hr2:=hr.zkj (blk':=.lay [.iv lo hi]) hd rfl rfl (hx.get hgv) (.inr ⟨_,rfl,rfl,by simp [ecells],c,T,fr,hc,by simp [ecells,hcs],by simp [ecells],fun p hp=>by
  have hp0:p=0:=by
   have:p<P.cellsOf v.type:=hp
   omega
  subst hp0
  exact⟨_,_,rfl,by simpa using hc0,.iv h1 h2⟩⟩)
 refine⟨G,hr2,fun loc v r hat=>hr2.lt _ _ _ hat,fun g hg=>?_⟩
 have hv:P.globals[g]?=some P.globals[g]:=Array.getElem?_eq_getElem hg
 have hgv:(kk P)[g]?=some [⟨g,0,P.cellsOf (P.globals[g]).type,P.cellsOf (P.globals[g]).type,0⟩]:=by
  unfold kk
  rw[List.getElem?_map,List.getElem?_range hg]
  simp only[Option.map_some,hv]
 exact⟨_,Gh.jC (hx.get hgv) rfl,rfl,rfl,rfl⟩
theorem zi1{P:Program}{W:World}{r:Reach}{base:Nat}{t:TypeId}{cs:Array Value}(ha:zb3 P t=some false)(h:Value.okWide P W r base t (.agg cs)):False:=by
 unfold Value.okWide at h
 unfold zb3 at ha
 cases hu:P.underlying t with
 |none=>rw[hu] at ha;cases ha
 |some d=>
  rw[hu] at ha h
  cases d<;>first|(cases ha;done)|(simp [Cell.okWide,Cell.ok,hu] at h;done)
theorem zjs{P:Program}{W:World}{r:Reach}{base:Nat}{t:TypeId}{v:Value}(ha:zb3 P t=some true)(h:Value.okWide P W r base t v):∃ l:List Value,v=.agg (List.toArray l):=by
 unfold zb3 at ha
 unfold Value.okWide at h
 cases hu:P.underlying t with
 |none=>rw[hu] at ha;cases ha
 |some d=>
  rw[hu] at ha h
  cases d<;>first|(cases ha;done)|(obtain⟨cs,rfl,_⟩:=h;exact⟨cs.toList,by simp⟩)
theorem val_one{P:Program}{W:World}{r:Reach}{base:Nat}{t:TypeId}{v x:Value}(ha:zb3 P t=some false)(h:Value.okWide P W r base t v)(hc:v.cells.toList=[x]):v=x:=by
 cases v with
 |agg cs=>exact(zi1 ha h).elim
 |_=>simpa [Value.cells] using hc
theorem zev{t:TypeId}{ts:List TypeId}{vs:List Value}{ds:List (DataW H)}{ps:List MemPlace}(h:DataW.TrodAll enc P W 0 (fun _=>true) true (t::ts) vs ds ps):
  ∃ v vs' d ds' p q,vs=v::vs'/\ds=d::ds'/\(∃ n,DataW.trod enc P W 0 (fun _=>true) true n t v.cells.toList=some (d,p))/\DataW.TrodAll enc P W 0 (fun _=>true) true ts vs' ds' q:=by
 match vs,ds,h with
 |v::vs',d::ds',h=>obtain⟨p,q,h1,h2,_⟩:=h;exact⟨v,vs',d,ds',p,q,rfl,rfl,h1,h2⟩
theorem zeu{vs:List Value}{ds:List (DataW H)}{ps:List MemPlace}(h:DataW.TrodAll enc P W 0 (fun _=>true) true [] vs ds ps):vs=[]/\ds=[]:=by
 match vs,ds,h with
 | [],[],_=>exact⟨rfl,rfl⟩
end
end Go.Mx
namespace Go.Sx
open Go Go.Gx Go.Mx
variable [z6]
def zlH:Lf->Option Bool
 |.b x=>some x
 |_=>none
def zlK:Lf->Option Int
 |.i x=>some x
 |_=>none
def zlI:Lf->Option UInt8
 |.c x=>some x
 |_=>none
def zlN:Lf->Option (List UInt8)
 |.s x=>some x
 |_=>none
def zlM:Lf->Option Nat
 |.n x=>some x
 |_=>none
def zlL(u:U):Lf->Option (List (El u))
 |.l v x=>qB v u x
 |_=>none
def zlJ(u:U):Lf->Option (El u)
 |.e v x=>if h:v=u then some (h ▸ x) else none
 |_=>none
inductive LK where
 |b|i|c|s|n|l (u:U)|e (u:U)
@[reducible] def LK.T:LK->Type
 |.b=>Bool|.i=>Int|.c=>UInt8|.s=>List UInt8|.n=>Nat|.l u=>List (El u)|.e u=>El u
def LK.g:(k:LK)->Lf->Option k.T
 |.b=>zlH|.i=>zlK|.c=>zlI|.s=>zlN|.n=>zlM|.l u=>zlL u|.e u=>zlJ u
def LK.m:(k:LK)->k.T->Lf
 |.b=>.b|.i=>.i|.c=>.c|.s=>.s|.n=>.n|.l u=>.l u|.e u=>.e u
def zhR:Code->List Nat->Code
 |c,[]=>c
 |.seq a _,0::p=>zhR a p
 |.seq _ b,_::p=>zhR b p
 |.cond _ a _,0::p=>zhR a p
 |.cond _ _ b,_::p=>zhR b p
 |.block _ c,_::p=>zhR c p
 |.loop c,_::p=>zhR c p
 |.rangeFunc _ _ a _,0::p=>zhR a p
 |.rangeFunc _ _ _ b,_::p=>zhR b p
 |_,_=>.skip
section
variable {P:Program} {gl:GL} {hk:zG}
def zfb(P:Program)(gl:GL)(hk:zG):List (Code×LF)->Prop
 | []=>True
 |(c,g)::l=>zhZ P gl hk c g/\zfb P gl hk l
theorem zfb.app:∀ {a b:List (Code×LF)},zfb P gl hk (a++b)->zfb P gl hk a/\zfb P gl hk b
 | [],b,h=>⟨trivial,h⟩
 |_::_,b,⟨h1,h2⟩=>⟨⟨h1,(zfb.app h2).1⟩,(zfb.app h2).2⟩
theorem zfb.nil:zfb P gl hk []:=trivial
theorem zfb.cons{c:Code}{g:LF}{l:List (Code×LF)}(h:zhZ P gl hk c g)(t:zfb P gl hk l):zfb P gl hk ((c,g)::l):=⟨h,t⟩
def zkM(P:Program)(gl:GL)(hk:zG):List (FuncId×CF)->Prop
 | []=>True
 |(f,g)::l=>zkN P gl hk f g/\zkM P gl hk l
def zlA:List (FuncId×CF)->FuncId->Bool
 | [],_=>false
 |(f,_)::l,k=>Nat.beq k f||zlA l k
structure zk4(P:Program)(hk:zG)(al:List FuncId):Prop where
 h:∀ f g,hk f=some g->f ∉ al->(P.funcs[f]?).bind (·.body)=none
abbrev FT:=List (FuncId×CF)
section
variable {T:FT} {al:List FuncId} (hh:zk4 P hk al) (ha:(al.all fun f=>zlA T f)=true) (hT:zkM P gl hk T)
include hh ha hT
end
section
variable {al:List FuncId} (hh:zk4 P hk al) {T:FT} (hT:zkM P gl hk T)
include hh hT
end
def dr:Nat->List PV->List PV
 |0,l=>l
 |n+1,l=>.drop::dr n l
theorem jT{f:FuncId}{k:XK}:∀ {tab:List (FuncId×XK)},tab.lookup f=some k->(f,k) ∈ tab
 | [],h=>by cases h
 |(g,k')::l,h=>by
  unfold List.lookup at h
  split at h
  ·rename_i he
   cases h
   rw[eq_of_beq he];exact List.mem_cons_self
  ·exact List.mem_cons_of_mem _ (jT h)
def zlv:List AV->zb->Option CR:=fun args h=>match args with
 | []=>some (.ret (.bool true) h)
 |_=>none
end
def Wf:(u:U)->El u->Prop
 |.bool,_=>True
 |.int k,n=>k.min<=n/\(n:Int)<=k.max
 |.u8,_=>True
 |.str,l=>(l:List UInt8).length<=maxLen
 |.sl u,l=>(l:List (El u)).length<=maxLen/\∀ x ∈ (l:List (El u)),Wf u x
 |.pair u v,x=>Wf u x.1/\Wf v x.2
 |.unit,_=>True
def zgX(P:Program):Nat->TypeId->Bool
 |0,_=>false
 |d+1,t=>match P.underlying t with
  |some .bool=>Nat.beq (P.cellsOf t) 1
  |some (.int _)=>Nat.beq (P.cellsOf t) 1
  |some .string=>Nat.beq (P.cellsOf t) 1
  |some (.slice e)=>Nat.beq (P.cellsOf t) 1&&Nat.blt 0 (P.cellsOf e)&&zgX P d e
  |some (.struct fs)=>flush P fs.toList 0 (P.cellsOf t)&&fs.toList.all fun f=>zgX P d f.type
  |_=>false
theorem qW{α:Type}[Inhabited α]{a:Arr α}{l m:List α}:(a++l)++m=a++(l++m):=by
 induction l generalizing a with
 |nil=>rfl
 |cons x l ih=>exact ih (a:=a.push x)
section
variable {P:Program} {B:Nat} {w:World} {H:Type} {enc:TypeId×Value->H} {base:Nat} {held:Bool}
abbrev PhA(h:zb):Nat->Prop:=fun m=>m<h.length
theorem RE.app{h:zb}{u:U}{x:El u}{cs:List AV}(q:RE h (PhA h) u x cs)(E:List Blk):RE (h++E) (PhA (h++E)) u x cs:=
 q.le (fun m hm=>Arr.zA hm) fun m hm=>by show m<(h++E).length;rw[Arr.zj];have:m<h.length:=hm;omega
theorem VL.ext{G G':Gh}(h:G.ext G'){l:List AV}{us:List Value}(q:VL G l us):VL G' l us:=q.le h.le
def Lays(P:Program)(B:Nat)(w:World)(enc:TypeId×Value->H)(base:Nat)(held:Bool)(u:U)(Q:List Value->Prop):Prop:=
 ∀ (G:Gh) (h:zb) (cs:List Value),HR G B h w->Q cs->∃ (G':Gh) (E:List Blk) (x:El u) (avs:List AV),HR G' B (h++E) w/\G.ext G'/\VL G' avs cs/\RE (h++E) (PhA (h++E)) u x avs/\Wf u x
theorem zac{d:Nat}(ih:∀ (t:TypeId) (u:U),uOf P d t=some u->zgX P d t=true->Lays P B w enc base held u fun cs=>∃ n d' p,DataW.trod enc P w base (fun _=>true) held n t cs=some (d',p)):
  ∀ (fs:List Field) (u:U),qk (uOf P d) fs=some u->(fs.all fun f=>zgX P d f.type)=true->∀ (G:Gh) (h:zb) (css:List (List Value)),HR G B h w->css.length=fs.length ->
   (∀ (i:Nat) (f:Field) (cs:List Value),fs[i]?=some f->css[i]?=some cs->∃ n d' p,DataW.trod enc P w base (fun _=>true) held n f.type cs=some (d',p)) ->
   ∃ (G':Gh) (E:List Blk) (x:El u) (avs:List AV),HR G' B (h++E) w/\G.ext G'/\VL G' avs css.flatten/\RE (h++E) (PhA (h++E)) u x avs/\Wf u x
 | [],u,hu,hf,G,h,css,hr,hl,hc=>by
  cases hu
  have:css=[]:=List.length_eq_zero_iff.1 hl
  subst this
  exact⟨G,[],(),[],by rw[Arr.ql];exact hr,Gh.zr _,.nil,rfl,trivial⟩
 | [f],u,hu,hf,G,h,css,hr,hl,hc=>by
  match css,hl with
  | [cs],_=>
   simp only[List.all_cons,List.all_nil,Bool.and_true] at hf
   unfold qk at hu
   split at hu
   ·cases hu
   ·obtain⟨G',E,x,avs,h1,h2,h3,h4,h5⟩:=ih _ _ hu hf G h cs hr (hc 0 f cs rfl rfl)
    exact⟨G',E,x,avs,h1,h2,by simpa using h3,h4,h5⟩
 |f::f2::fs,u,hu,hf,G,h,css,hr,hl,hc=>by
  match css,hl with
  |cs::css,hl=>
   simp only[List.all_cons,Bool.and_eq_true] at hf
   unfold qk at hu
   split at hu
   ·rename_i u1 u2 _ e1 e2
    cases hu
    obtain⟨G1,E1,x,avs,h1,h2,h3,h4,h5⟩:=ih _ _ e1 hf.1 G h cs hr (hc 0 f cs rfl rfl)
    obtain⟨G2,E2,y,bvs,k1,k2,k3,k4,k5⟩:=zac ih (f2::fs) u2 e2 (by simp only[List.all_cons,Bool.and_eq_true];exact hf.2) G1 (h++E1) css h1 (by simpa using hl) fun i f' cs' q1 q2=>hc (i+1) f' cs' (by simpa using q1) (by simpa using q2)
    refine⟨G2,E1++E2,(x,y),avs++bvs,?_,h2.trans k2,?_,?_,h5,k5⟩
    ·rw[<- qW];exact k1
    ·rw[List.flatten_cons];exact(VL.ext k2 h3).append k3
    ·rw[<- qW]
     exact⟨avs,bvs,rfl,RE.app h4 E2,k4⟩
   ·cases hu
theorem zcq{e:TypeId}{u:U}(hsz:0<u.sz)(ih:Lays P B w enc base held u fun cs=>∃ n d' p,DataW.trod enc P w base (fun _=>true) held n e cs=some (d',p)):
  ∀ (css:List (List Value)) (G:Gh) (h:zb),HR G B h w->(∀ (i:Nat) (cs:List Value),css[i]?=some cs->∃ n d' p,DataW.trod enc P w base (fun _=>true) held n e cs=some (d',p)) ->
   ∃ (G':Gh) (E:List Blk) (l:List (El u)) (avs:List AV),HR G' B (h++E) w/\G.ext G'/\VL G' avs css.flatten/\RCs (h++E) (PhA (h++E)) u l avs/\l.length=css.length/\∀ x ∈ l,Wf u x
 | [],G,h,hr,hc=>⟨G,[],[],[],by rw[Arr.ql];exact hr,Gh.zr _,.nil,⟨by simp,fun i e hi=>by simp at hi⟩,rfl,by simp⟩
 |cs::css,G,h,hr,hc=>by
  obtain⟨G1,E1,x,avs,h1,h2,h3,h4,h5⟩:=ih G h cs hr (hc 0 cs rfl)
  obtain⟨G2,E2,l,bvs,k1,k2,k3,k4,k5,k6⟩:=zcq hsz ih css G1 (h++E1) h1 fun i cs' q=>hc (i+1) cs' (by simpa using q)
  have hal:=h4.length
  refine⟨G2,E1++E2,x::l,avs++bvs,by rw[<- qW];exact k1,h2.trans k2,by rw[List.flatten_cons];exact(VL.ext k2 h3).append k3,⟨?_,fun i e hi=>?_⟩,by simp [k5],fun y hy=>?_⟩
  ·rw[List.length_append,hal,k4.1,List.length_cons,Nat.add_mul];omega
  ·rw[<- qW]
   cases i with
   |zero=>
    simp at hi;subst hi
    have:part u.sz (avs++bvs) 0=avs:=by unfold part;rw[Nat.zero_mul,List.drop_zero,<- hal,List.take_left]
    rw[this];exact RE.app h4 E2
   |succ i=>
    have:part u.sz (avs++bvs) (i+1)=part u.sz bvs i:=by
     unfold part
     rw[show(i+1)*u.sz=avs.length+i*u.sz by rw[hal,Nat.add_mul];omega,<- List.drop_drop,List.drop_left]
    rw[this];exact k4.2 i e (by simpa using hi)
  ·rcases List.mem_cons.1 hy with rfl|hy
   ·exact h5
   ·exact k6 y hy
theorem zgR:∀ {d:Nat} {t:TypeId} {u:U},uOf P d t=some u->zgX P d t=true->u.sz=P.cellsOf t
 |0,t,u,h,_=>by cases h
 |d+1,t,u,h,hf=>by
  unfold uOf at h
  unfold zgX at hf
  split at h
  ·rename_i hu;rw[hu] at hf;cases h;exact(za hf).symm
  ·rename_i hu;rw[hu] at hf;cases h;exact(za hf).symm
  ·rename_i hu;rw[hu] at hf;cases h;exact(za hf).symm
  ·rename_i hu;rw[hu] at hf;cases h;exact(za hf).symm
  ·rename_i hu;rw[hu] at hf
   simp only[Bool.and_eq_true] at hf
   cases hq:uOf P d _ with
   |none=>rw[hq] at h;cases h
   |some v=>rw[hq] at h;cases h;exact(za hf.1.1).symm
  ·rename_i fs hu;rw[hu] at hf
   simp only[Bool.and_eq_true] at hf
   have key:∀ (l:List Field) (u:U) (o n:Nat),qk (uOf P d) l=some u->(l.all fun f=>zgX P d f.type)=true->flush P l o n=true->o+u.sz=n:=by
    intro l
    induction l with
    |nil=>intro u o n h1 h2 h3;cases h1;have:=Nat.eq_of_beq_eq_true h3;simpa [U.sz] using this
    |cons f l ih=>
     intro u o n h1 h2 h3
     simp only[List.all_cons,Bool.and_eq_true] at h2
     simp only[flush,Bool.and_eq_true] at h3
     cases l with
     |nil=>
      unfold qk at h1
      split at h1
      ·cases h1
      ·have e1:=zgR h1 h2.1
       have:=Nat.eq_of_beq_eq_true h3.2
       omega
     |cons f2 l=>
      unfold qk at h1
      split at h1
      ·rename_i u1 u2 _ e1 e2
       cases h1
       have q1:=zgR e1 h2.1
       have q2:=ih _ _ _ e2 h2.2 h3.2
       simp only[U.sz];omega
      ·cases h1
   have:=key _ _ _ _ h hf.2 hf.1
   omega
  ·cases h
theorem zaa(hB:B=w.heap.size)(hz:∃ (b0:Nat) (c:Array Value) (T:TypeId) (fr:Nat×Nat),w.heap[b0]?=some (.cells c T fr)):∀ (m:Nat) (t:TypeId) (u:U),uOf P m t=some u->zgX P m t=true ->
  Lays P B w enc base held u fun cs=>∃ n d' p,DataW.trod enc P w base (fun _=>true) held n t cs=some (d',p)
 |0,t,u,hu,_=>by cases hu
 |m+1,t,u,hu,hf=>by
  intro G h cs hr ⟨n,d,p,ht⟩
  unfold uOf at hu
  unfold zgX at hf
  split at hu
  ·rename_i hund;rw[hund] at hf;cases hu
   obtain⟨b',rfl,e⟩:=DataW.trod_bool hund ht
   exact⟨G,[],b',[.bool b'],by rw[Arr.ql];exact hr,Gh.zr _,.cons (.bool _) .nil,rfl,trivial⟩
  ·rename_i hund;rw[hund] at hf;cases hu
   obtain⟨b,rfl,_,hw⟩:=DataW.trod_int hund ht
   have hb:0<=b/\b<=255:=by simpa [Lit.wf,IntKind.min,IntKind.max,IntKind.signed,IntKind.bits] using hw
   refine⟨G,[],UInt8.ofNat b.toNat,[.int .u8 b],by rw[Arr.ql];exact hr,Gh.zr _,.cons (.int _ _) .nil,?_,trivial⟩
   show[AV.int .u8 b]=[AV.int .u8 _]
   congr 2
   simp only[UInt8.toNat_ofNat']
   omega
  ·rename_i hund;rw[hund] at hf;cases hu
   obtain⟨b,rfl,_,hw⟩:=DataW.trod_int hund ht
   exact⟨G,[],b,[.int _ b],by rw[Arr.ql];exact hr,Gh.zr _,.cons (.int _ _) .nil,rfl,show _/\_ by simpa [Lit.wf] using hw⟩
  ·rename_i hund;rw[hund] at hf;cases hu
   obtain⟨b,rfl,_,hw⟩:=DataW.trod_string hund ht
   exact⟨G,[],b.data.toList,[.str b.data.toList],by rw[Arr.ql];exact hr,Gh.zr _,.cons (.str _) .nil,rfl,by show b.data.toList.length<=maxLen;rw[Array.length_toList];exact hw⟩
  ·rename_i e hund;rw[hund] at hf
   simp only[Bool.and_eq_true] at hf
   obtain⟨⟨_,hpos⟩,hfe⟩:=hf
   have hpos:=zH hpos
   cases hq:uOf P m e with
   |none=>rw[hq] at hu;cases hu
   |some v=>
    rw[hq] at hu;cases hu
    have hsz:=zgR hq hfe
    have ih:=zaa hB hz m e v hq hfe
    rcases DataW.trod_slice hund ht with⟨rfl,_⟩|⟨a,len,cap,el,rs,n',rfl,rfl,he,hba,hlc,hcm,hel,hee,hsp,_⟩
    ·exact⟨G,[],[],[.zZ],by rw[Arr.ql];exact hr,Gh.zr _,.cons .zZ .nil,⟨_,rfl,.inl ⟨rfl,rfl⟩⟩,by show 0<=maxLen;omega,by simp⟩
    ·obtain⟨hrl,hrr⟩:=hsp rfl
     have hcell:∀ i,i<cap->∃ cs',w.cells? base (a.add (i*P.cellsOf e)) (P.cellsOf e)=some cs':=by
      intro i hi
      by_cases hil:i<len
      ·have h0:=hee i hil
       rw[List.getElem?_eq_getElem (by omega)] at h0
       obtain⟨cs',e1,_⟩:=Option.bind_eq_some_iff.1 h0
       exact⟨cs',e1⟩
      ·have h0:=hrr (i-len) (by omega)
       rw[List.getElem?_eq_getElem (by omega),show len+(i-len)=i from by omega] at h0
       obtain⟨cs',e1,_⟩:=Option.bind_eq_some_iff.1 h0
       exact⟨cs',e1⟩
     rcases Nat.eq_zero_or_pos cap with hc0|hc0
     ·have hl0:len=0:=by omega
      subst hc0;subst hl0
      obtain⟨b0,c,T,fr,hb0⟩:=hz
      have hr2:=hr.kI (a:=⟨b0,0,none⟩) (xs:=[]) (cs:=[]) (by show b0<B;rw[hB];exact(Array.getElem?_eq_some_iff.1 hb0).1) hb0 .nil (fun j u hu=>by simp at hu) (by simp)
      refine⟨_,[.lay []],[],[.sl h.length 0 0 v.sz 0 false],hr2,Gh.jP _ _,.cons ?_ .nil,⟨_,rfl,.inr ⟨h.length,0,0,false,[],rfl,.inl rfl,?_,?_,by simp,fun i e hi=>by simp at hi⟩⟩,by show 0<=maxLen;omega,by simp⟩
      ·exact V.sl0 (r:=⟨b0,0,0,c.size,0⟩) (by rw[<- hr.len,qN];rfl) (Nat.le_refl _) (Nat.le_refl _) (fun _=>Nat.le_refl _) (by omega)
      ·show h.length<(h++[Blk.lay []]).length;rw[Arr.zj];simp
      ·unfold rd
       rw[Arr.zg (Nat.le_refl _),Nat.sub_self]
       simp
     ·obtain⟨c0,ec0⟩:=hcell 0 hc0
      obtain⟨c,T,fr,q1,q2,_,_⟩:=qC ec0 hpos
      rw[(qf a _).1] at q1
      have ha0:a.add (0*P.cellsOf e)=a:=by simp [Addr.add]
      rw[ha0] at q2
      have hrow:∀ i,i<cap->∀ cs',w.cells? base (a.add (i*P.cellsOf e)) (P.cellsOf e)=some cs'->cs'.length=P.cellsOf e/\(∀ (k:Nat) (u:Value),cs'[k]?=some u->c[k+(a.off+i*P.cellsOf e)]?=some u)/\P.cellsOf e+(a.off+i*P.cellsOf e)<=c.size:=by
       intro i hi cs' ec
       obtain⟨c2,T2,fr2,g1,_,g3,g4⟩:=qC ec hpos
       rw[(qf a _).1,q1] at g1
       cases g1
       rw[(qf a _).2] at g3 g4
       exact⟨(ja ec).1,g3,g4⟩
      have hget:∀ (i:Nat) (cs':List Value),((List.range len).map fun i=>(w.cells? base (a.add (i*P.cellsOf e)) (P.cellsOf e)).getD [])[i]?=some cs'->i<len/\w.cells? base (a.add (i*P.cellsOf e)) (P.cellsOf e)=some cs':=by
       intro i cs' e2
       rw[List.getElem?_map,Option.map_eq_some_iff] at e2
       obtain⟨j,e3,rfl⟩:=e2
       have hik:i<len:=by have:=(List.getElem?_eq_some_iff.1 e3).1;simpa using this
       rw[List.getElem?_range hik] at e3
       cases e3
       obtain⟨cs',ec⟩:=hcell i (by omega)
       exact⟨hik,by rw[ec];rfl⟩
      obtain⟨G1,E1,l,avs,r1,l1,v1,c1,len1,wf1⟩:=zcq (by omega) ih ((List.range len).map fun i=>(w.cells? base (a.add (i*P.cellsOf e)) (P.cellsOf e)).getD []) G h hr fun i cs' e2=>by
       obtain⟨hik,ec⟩:=hget i cs' e2
       have h0:=hee i hik
       rw[ec,List.getElem?_eq_getElem (by omega)] at h0
       exact⟨n',_,_,h0⟩
      obtain⟨fl1,fl2⟩:=zdk (c:=c) (sz:=P.cellsOf e) (o:=a.off) (css:=(List.range len).map fun i=>(w.cells? base (a.add (i*P.cellsOf e)) (P.cellsOf e)).getD []) fun i cs' e2=>by
       obtain⟨hik,ec⟩:=hget i cs' e2
       obtain⟨k1,k2,_⟩:=hrow i (by omega) cs' ec
       exact⟨k1,k2⟩
      have len1:l.length=len:=by rw[len1];simp
      rw[List.length_map,List.length_range] at fl1
      obtain⟨csl,ecl⟩:=hcell (cap-1) (by omega)
      obtain⟨_,_,hend⟩:=hrow (cap-1) (by omega) csl ecl
      have hcapsz:cap*P.cellsOf e=P.cellsOf e+(cap-1)*P.cellsOf e:=by
       obtain⟨k,rfl⟩:∃ k,cap=k+1:=⟨cap-1,by omega⟩
       rw[Nat.add_mul];simp;omega
      have hlensz:len*P.cellsOf e<=cap*P.cellsOf e:=Nat.mul_le_mul_right _ hlc
      have hlt:a.block<B:=by rw[hB];exact(Array.getElem?_eq_some_iff.1 q1).1
      have hxl:avs.length=len*P.cellsOf e:=by rw[<- v1.length,fl1]
      have hr2:=r1.kI hlt q1 v1 fl2 (by omega)
      refine⟨_,E1++[.lay avs],l,[.sl (h++E1).length 0 len v.sz 0 false],by rw[<- qW];exact hr2,l1.trans (Gh.jP _ _),.cons ?_ .nil,⟨_,rfl,.inr ⟨(h++E1).length,0,0,false,avs,by rw[len1],.inl rfl,?_,?_,?_,fun i e hi=>?_⟩⟩,by rw[len1];omega,wf1⟩
      ·have hV:=V.sl (G:=G1++[[⟨a.block,0,avs.length,c.size,a.off⟩]]) (loc:=(h++E1).length) (off:=0) (len:=len) (sz:=v.sz) (ver:=0) (cap:=cap) (clip:=false) (r:=⟨a.block,0,avs.length,c.size,a.off⟩) (by rw[<- r1.len,qN];rfl) (Nat.le_refl _) (by show 0+len*v.sz<=avs.length;rw[hsz];omega) hlc
        (by show 0+a.off-0+cap*v.sz<=c.size;rw[hsz];omega) (fun e=>by cases e) (fun _=>by show avs.length<=0+cap*v.sz;rw[hsz];omega) hcm (by omega)
       obtain⟨ab,ao,as1⟩:=a
       simp only at q2
       subst q2
       simpa using hV
      ·show(h++E1).length<(h++(E1++[Blk.lay avs])).length
       rw[<- qW,Arr.zj (a:=h++E1)];simp
      ·unfold rd
       rw[<- qW,Arr.zg (Nat.le_refl _),Nat.sub_self]
       have:l.length*v.sz=avs.length:=by rw[len1,hxl,hsz]
       simp [this]
      ·rw[len1,hsz,hxl]
      ·rw[<- qW];exact RE.app (c1.2 i e hi) _
  ·rename_i fs hund;rw[hund] at hf
   simp only[Bool.and_eq_true] at hf
   obtain⟨ys,n',rfl,he,hlen,hyl,hy⟩:=DataW.trod_struct hund ht
   have hflat:=kr (cs:=cs) hf.1 hlen (Nat.zero_le _)
   rw[List.drop_zero] at hflat
   have:=zac (fun t u h1 h2=>zaa hB hz m t u h1 h2) fs.toList u hu hf.2 G h (fs.toList.map fun f=>(cs.drop f.offset).take (P.cellsOf f.type)) hr (by simp) fun i f cs' e1 e2=>by
    rw[List.getElem?_map,Option.map_eq_some_iff] at e2
    obtain⟨f2,g2,rfl⟩:=e2
    rw[e1] at g2;cases g2
    have h0:=hy i f (by simpa using e1)
    have hi:i<ys.length:=by rw[hyl];have:=(List.getElem?_eq_some_iff.1 e1).1;simpa using this
    rw[List.getElem?_eq_getElem hi] at h0
    exact⟨n',_,_,h0⟩
   rw[hflat] at this
   exact this
  ·cases hu
end
theorem zfi{P:Program}{W:World}{base:Nat}{t:TypeId}{v:Value}{u:U}{d:Nat}(hu:uOf P (d+1) t=some u)(ha:zb3 P t=some u.agg)(hv:Value.okWide P W .any base t v){G:Gh}{avs:List AV}(hx:VL G avs v.cells.toList):
  (u.agg=true->V G (.agg avs) v)/\(u.agg=false->∀ x,avs=[x]->V G x v):=by
 refine⟨fun h=>?_,fun h x hxs=>?_⟩
 ·rw[h] at ha
  obtain⟨l,rfl⟩:=zjs ha hv
  exact .agg (by simpa [Value.cells] using hx)
 ·rw[h] at ha
  subst hxs
  cases hc:v.cells.toList with
  |nil=>rw[hc] at hx;cases hx
  |cons y ys=>
   rw[hc] at hx
   cases hx with
   |cons h1 h2=>
    cases h2
    rw[val_one ha hv hc];exact h1
def zlO(n:Nat)(h:zb)(keep:List Nat):GL:=(List.range n).map fun g=>match keep.contains g with
 |true=>match h[g]? with
  |some (.lay cs)=>zie cs
  |_=>none
 |false=>none
def zea(P:Program):List TypeId->List U->Bool
 | [],[]=>true
 |t::ts,u::us=>decide (uOf P 6 t=some u)&&zgX P 6 t&&decide (zb3 P t=some u.agg)&&zea P ts us
 |_,_=>false
theorem U.zkH{u:U}(h:u.agg=false):u.sz=1:=by cases u<;>first|rfl|cases h
theorem zcp{P:Program}{B:Nat}{w:World}{H:Type}{enc:TypeId×Value->H}{base:Nat}(hB:B=w.heap.size)(hz:∃ (b0:Nat) (c:Array Value) (T:TypeId) (fr:Nat×Nat),w.heap[b0]?=some (.cells c T fr)):
  ∀ (ts:List TypeId) (us:List U),zea P ts us=true->∀ (G:Gh) (h:zb) (vs:List Value) (ds:List (DataW H)) (ps:List MemPlace),HR G B h w->DataW.TrodAll enc P w 0 (fun _=>true) true ts vs ds ps ->
   (∀ (j:Nat) t v,ts[j]?=some t->vs[j]?=some v->Value.okWide P w .any base t v) ->
   ∃ (G':Gh) (E:List Blk) (x:El (zk2 us)) (margs:List AV),HR G' B (h++E) w/\G.ext G'/\VL G' margs vs/\RVs ⟨h++E,PhA (h++E),[],[]⟩ (zh1 us x) margs/\Wf (zk2 us) x
 | [],us,ha,G,h,vs,ds,ps,hr,ht,hv=>by
  cases us with
  |cons=>cases ha
  |nil=>
   obtain⟨rfl,rfl⟩:=zeu ht
   exact⟨G,[],(),[],by rw[Arr.ql];exact hr,Gh.zr _,.nil,rfl,trivial⟩
 |t::ts,us,ha,G,h,vs,ds,ps,hr,ht,hv=>by
  cases us with
  |nil=>cases ha
  |cons u us=>
   simp only[zea,Bool.and_eq_true,decide_eq_true_eq] at ha
   obtain⟨⟨⟨h1,h2⟩,h3⟩,h4⟩:=ha
   obtain⟨v,vs',d,ds',p,q,rfl,rfl,⟨n,h5⟩,h6⟩:=zev ht
   obtain⟨G1,E1,x,avs,k1,k2,k3,k4,k5⟩:=zaa (enc:=enc) (base:=0) (held:=true) hB hz 6 t u h1 h2 G h _ hr ⟨n,d,p,h5⟩
   obtain⟨a1,a2⟩:=zfi h1 h3 (hv 0 t v rfl rfl) k3
   obtain⟨G2,E2,y,margs,m1,m2,m3,m4,m5⟩:=zcp hB hz ts us h4 G1 (h++E1) vs' ds' q k1 h6 fun j t' v' e1 e2=>hv (j+1) t' v' (by simpa using e1) (by simpa using e2)
   rw[qW] at m1 m4
   have k6:=RE.app k4 E2
   rw[qW] at k6
   obtain⟨b1,b2⟩:=ze6 (Z:=⟨h++(E1++E2),PhA (h++(E1++E2)),[],[]⟩) rfl rfl k6
   cases hag:u.agg with
   |true=>exact⟨G2,E1++E2,(x,y),.agg avs::margs,m1,k2.trans m2,.cons ((a1 hag).le m2.le) m3,⟨_,_,rfl,b1 hag,m4⟩,k5,m5⟩
   |false=>
    have hl:=k4.length
    rw[U.zkH hag] at hl
    match avs,hl with
    | [a],_=>exact⟨G2,E1++E2,(x,y),a::margs,m1,k2.trans m2,.cons ((a2 hag a rfl).le m2.le) m3,⟨_,_,rfl,b2 hag a rfl,m4⟩,k5,m5⟩
end Go.Sx
namespace Go.Mx
open Go Go.Gx Go.Proofs Go.Shelf Go.RowKit
theorem zg3{G:Gh}{B:Nat}{h:zb}{w w':World}{v:AV}{u:Value}(hr:HR G B h w)(hb:Below w.heap.size w w')(hv:V G v u):zhV G B w (.ret v h) (.returned u) w':=
 ⟨G,Step.grow hr hb.size hb.block hb.os hb.tape hb.output,u,hv,rfl⟩
def zjP:Nat:=140737488355328
section
variable {P:Program} {ρ:Ren} {hgl:zb} {Gg:Gh} {B:Nat} {W0:World}
end
end Go.Mx
namespace Go.Sx
open Go Go.Gx Go.Mx
variable [z6]
theorem RCs.u8{h:zb}{Φ:Nat->Prop}:∀ {l:List UInt8} {cs:List AV},RCs h Φ .u8 l cs->cs=l.map fun b=>AV.int .u8 (b.toNat:Int):=by
 intro l cs q
 refine List.ext_getElem? fun i=>?_
 obtain⟨q1,q2⟩:=q
 have hl:cs.length=l.length:=by rw[q1];exact Nat.mul_one _
 rw[List.getElem?_map]
 cases hi:l[i]? with
 |none=>
  rw[List.getElem?_eq_none_iff] at hi
  rw[List.getElem?_eq_none_iff.2 (by omega)];rfl
 |some e=>
  have h1:=q2 i e hi
  have hlt:=(List.getElem?_eq_some_iff.1 hi).1
  have h2:part 1 cs i=[AV.int .u8 (e.toNat:Int)]:=h1
  rw[zt,Nat.mul_one,List.drop_eq_getElem_cons (by omega)] at h2
  simp only[List.take_succ_cons,List.take_zero,List.cons.injEq,and_true] at h2
  rw[List.getElem?_eq_getElem (by omega),h2];rfl
section
variable {P:Program} {gl:GL} {hk:zG} {f:FuncId}
section
variable {g g0 g1:Nat} {cs:List AV}
end
end
end Go.Sx
namespace Go.Mx
open Go Go.Gx

end Go.Mx
namespace Go.Sx
open Go Go.Gx Go.Mx
variable [z6]
section
variable (P:Program) (gl:GL) (ct:CT) {R:Type}
end
def zkR:Nat->List (Option Nat×Nat)->Bool
 |_,[]=>true
 |k,(_,m)::I=>Nat.blt m (1 <<< k)&&zkR (k+1) I
theorem zcu:∀ {I:List (Option Nat×Nat)} {k:Nat},zkR k I=true->∀ (j:Nat) (d:Option Nat) (m:Nat),I[j]?=some (d,m)->∀ a,bit m a=true->a<k+j
 | [],k,h,j,d,m,hj=>by simp at hj
 |(d0,m0)::I,k,h,j,d,m,hj=>by
  simp only[zkR,Bool.and_eq_true] at h
  cases j with
  |zero=>simp at hj;obtain⟨rfl,rfl⟩:=hj;intro a ha;exact zh2 h.1 ha
  |succ j=>intro a ha;have:=zcu h.2 j d m (by simpa using hj) a ha;omega
structure QI(P:Program)(q:FuncId->Bool)(l:List Oper)(env0:Arr AV)(X0:Gst)(recs:List Rec)(X:Gst)(env:List SV)(h:SH)(me:Arr AV):Prop where
 stp:Stp X0 X
 env:RVs X env me.toL
 sh:X.sh=h
 hh:X.h=zaA X0.h recs
 e2:∀ (k t m:Nat) (r:Rec),(infos l [])[k]?=some (some t,m)->recs[k]?=some r->me[t]?=some r.val
 e3:∀ (t:Nat),(∀ (k m:Nat),(infos l [])[k]?=some (some t,m)->recs.length<=k)->me[t]?=env0[t]?
 dl:∀ (k t m:Nat),(infos l [])[k]?=some (some t,m)->k<recs.length->t<me.length
 ml:me.length=env0.length
 rk:∀ (k:Nat) (r:Rec),recs[k]?=some r->r.hp≠none->∃ o,l[k]?=some o/\x9 P q o.op=.act
section
variable {P:Program} {gl:GL} {ct:CT} {hk:zG} {q:FuncId->Bool} {l:List Oper} {env0:Arr AV} {X0 X:Gst} {recs:List Rec} {env:List SV} {h:SH} {me:Arr AV}
theorem QI.ev(hI:QI P q l env0 X0 recs X env h me)(hg:RGl P gl X)(hdst:wi (infos l [])=true)(hlow:zkR 0 (infos l [])=true){d:Option Nat}{b:Nat}(hi:(infos l [])[recs.length]?=some (d,b)):
  EvR X (zda gl (infos l []) env recs.length b) (evD P (infos l []) env0 (recs.map Rec.val) recs.length b X.h):=by
 intro o v hv
 have hlo:=zcu hlow
 cases o with
 |tmp t=>
  simp only[zda] at hv
  split at hv
  ·rename_i ht
   have ht:=xM ht
   rw[qJ] at hv
   obtain⟨x,h1,h2⟩:=hI.env.get hv
   rw[Arr.zl] at h1
   refine⟨x,?_,h2⟩
   simp only[evD]
   by_cases hex:∃ (j m:Nat),(infos l [])[j]?=some (some t,m)
   ·obtain⟨j,m,hj⟩:=hex
    rw[wY hj fun j' m' h'=>zM hdst j' j t m' m h' hj,Nat.zero_add]
    have hjd:=ht j m hj
    rw[Nat.zero_add] at hjd
    cases hb:bit b j with
    |true=>
     have hjl:j<recs.length:=by have:=hlo _ _ _ hi j hb;omega
     simp only[List.getElem?_map,List.getElem?_eq_getElem hjl,Option.map_some]
     rw[<- h1,hI.e2 j t m _ hj (List.getElem?_eq_getElem hjl)]
    |false=>
     rw[hb] at hjd
     have hm:bit m recs.length=true:=hjd.resolve_left (by simp)
     simp only[hm]
     rw[<- h1,hI.e3 t fun k m' hk=>?_]
     have e:=zM hdst k j t m' m hk hj
     subst e
     have:=hlo _ _ _ hj _ hm;omega
   ·rw[jS fun j m hj=>hex ⟨j,m,hj⟩,<- h1,hI.e3 t fun k m hk=>absurd ⟨k,m,hk⟩ hex]
  ·cases hv
 |const c=>exact jk (me:=me) (env:=env) (o:=.const c) hI.env hg hv
 |global g=>exact jk (me:=me) (env:=env) (o:=.global g) hI.env hg hv
 |func f=>exact jk (me:=me) (env:=env) (o:=.func f) hI.env hg hv
theorem QI.zkQ(hI:QI P q l env0 X0 recs X env h me){j t:Nat}{c:Bool}(hv:zfC l env j=some (t,c))(hj:j<recs.length):(∃ q,l[j]?=some q/\q.dst=some t)/\(recs.map Rec.val)[j]?=some (.bool c)/\sset env t (.a (.bool c))=env:=by
 unfold zfC at hv
 split at hv
 ·rename_i q hq
  split at hv
  ·rename_i t' ht
   split at hv
   ·rename_i b' hb
    cases hv
    rw[qJ] at hb
    rw[zbZ]
    obtain⟨x,h1,h2⟩:=hI.env.get hb
    cases(show x=_ from h2)
    obtain⟨m,h3,_⟩:=zV hq
    rw[ht] at h3
    have h4:=hI.e2 j t m _ h3 (List.getElem?_eq_getElem hj)
    rw[<- Arr.zl,h1] at h4
    exact⟨⟨q,hq,ht⟩,by rw[List.getElem?_map,List.getElem?_eq_getElem hj,Option.map_some];exact h4.symm,zL hb⟩
   ·cases hv
  ·cases hv
 ·cases hv
theorem QI.zbt(hI:QI P q l env0 X0 recs X env h me){j:Nat}(hv:zbt l env j=true)(hj:j<recs.length):∃ q t vs,l[j]?=some q/\q.dst=some t/\(recs.map Rec.val)[j]?=some (.tup vs):=by
 unfold Go.Sx.zbt at hv
 split at hv
 ·rename_i q hq
  split at hv
  ·rename_i t ht
   obtain⟨vs,hl⟩:=zaZ hv
   rw[qJ] at hl
   obtain⟨x,h1,h2⟩:=hI.env.get hl
   obtain⟨l',rfl,_⟩:=h2
   obtain⟨m,h3,_⟩:=zV hq
   rw[ht] at h3
   have h4:=hI.e2 j t m _ h3 (List.getElem?_eq_getElem hj)
   rw[<- Arr.zl,h1] at h4
   exact⟨q,t,l',hq,ht,by rw[List.getElem?_map,List.getElem?_eq_getElem hj,Option.map_some];exact h4.symm⟩
  ·cases hv
 ·cases hv
end
section
variable {P:Program} {gl:GL} {ct:CT} {hk:zG}
end
def zi5(fn:Func)(p:List Nat):Option (Array Tmp×Code×Code):=match fn.body with
 |some c=>match zhR c p with
  |.rangeFunc _ ps asg body=>some (ps,asg,body)
  |_=>none
 |none=>none
section
variable {P:Program} {gl:GL} {hk:zG} {al:List FuncId} (hh:zk4 P hk al) {T:FT} (hT:zkM P gl hk T)
include hh hT
end
end Go.Sx
set_option linter.unusedVariables false
set_option linter.unusedSimpArgs false
namespace Go.Mx
open Go Go.Gx Go.Proofs Go.Shelf Go.RowKit
def zbM:List AV->zb->Option CR:=fun args h=>match args with
 | [.str s,.int .i64 c]=>if(0<=c/\c<=140737488355328)/\s.length*c.toNat<=zjP then some (.ret (.str (Lib.repeatL s c.toNat)) h) else none
 |_=>none
section
variable {P:Program} {ρ:Ren} {hgl:zb} {Gg:Gh} {B:Nat} {W0:World}
theorem zeT(L:Lays.n105 P ρ)(X:Builder.Extra P ρ){args:List AV}{h:zb}{r:CR}(hg:zbM args h=some r):zdb P B W0 (ρ.f 105) args h r:=by
 intro G us w hx hr hgl
 unfold zbM at hg
 split at hg
 ·rename_i s c
  split at hg
  ·rename_i hc
   obtain⟨⟨c1,c2⟩,c3⟩:=hc
   cases hg
   cases hx with
   |cons h1 h2=>cases h2 with
    |cons h3 h4=>
     cases h4
     have hs:=zaD h1
     have hi:=qb h3
     subst hs hi
     refine .inl ⟨?_,Go.Proofs.enters_of L.f105 (by kernel_rfl) rfl⟩
     obtain⟨n,rfl⟩:∃ n:Nat,c=(n:Int):=⟨c.toNat,by omega⟩
     have:=Any.strings_Repeat L X ⟨s.toArray⟩ n w (by omega) (by
      have e:(⟨s.toArray⟩:ByteArray).size=s.length:=rfl
      rw[e];unfold zjP at c3;rw[Int.toNat_natCast] at c3;exact c3)
     refine this.mono fun e w' he=>?_
     obtain⟨rfl,hb⟩:=he
     rw[Int.toNat_natCast]
     exact zg3 hr hb (.str _)
  ·cases hg
 ·cases hg
end
end Go.Mx
namespace Go.Sx
open Go Go.Gx Go.Mx
section
variable [z6] {P:Program} {gl:GL} {hk:zG} {f:FuncId}
end
end Go.Sx
namespace Go.Mx
open Go Go.Gx
variable {P:Program} {hk:zG}
def chain(P:Program)(hk:zG):Nat->Nat->Code->St->Option (Nat×Code×St)
 |n,0,c,st=>some (n,c,st)
 |n+1,k+1,.seq a b,st=>match zC P hk n a st with
  |some (.normal,st')=>chain P hk n k b st'
  |_=>none
 |_,_,_,_=>none
theorem zdT(n:Nat)(a b:Code)(st:St):zC P hk (n+1) (.seq a b) st=match zC P hk n a st with
  |some (.normal,st')=>zC P hk n b st'
  |r=>r:=rfl
theorem zcb:∀ (k n:Nat) (c:Code) (st:St) {n':Nat} {c':Code} {st':St},chain P hk n k c st=some (n',c',st')->zC P hk n c st=zC P hk n' c' st'
 |0,n,c,st,n',c',st',h=>by
  unfold chain at h
  cases h;rfl
 |k+1,0,c,st,n',c',st',h=>by
  unfold chain at h
  cases h
 |k+1,n+1,c,st,n',c',st',h=>by
  cases c with
  |seq a b=>
   unfold chain at h
   rw[zdT]
   split at h
   ·rename_i st1 he
    exact zcb k n b st1 h
   ·cases h
  |_=>unfold chain at h;cases h
theorem zey{f:FuncId}{fn:Func}{c:Code}{args:List AV}{h:zb}{n k n':Nat}{c':Code}{st':St}(hf:P.funcs[f]?=some fn)(hc:fn.body=some c)(hl:args.length<=fn.ntmps)
  (hch:chain P hk n k c ⟨Arr.of (args++List.replicate (fn.ntmps-args.length) .undef),h,[],none⟩=some (n',c',st')):
  wx P (zC P hk n) f args h=match zC P hk n' c' st' with
   |some (.normal,st)=>zbG P fn st.env (mleave (z8 P (zC P hk n)) st.dl st.h .no)
   |some (.ret,st)=>zbG P fn st.env (mleave (z8 P (zC P hk n)) st.dl st.h .no)
   |some (.panic v,st)=>zbG P fn st.env (mleave (z8 P (zC P hk n)) st.dl st.h (.up v))
   |_=>none:=by
 unfold wx
 rw[hf]
 simp only
 unfold mstart
 rw[hc]
 simp only
 rw[if_pos hl,zcb k n c _ hch]
 rfl
end Go.Mx
namespace Go.Sx
open Go Go.Gx Go.Mx
variable [z6]
theorem zfN{P:Program}{hk:zG}{hgl:zb}{Gg:Gh}{W:World}(hmo:P.follows .mixedOrders=true)(hng:zff P)(hh:HOK P hgl Gg hk)(hL:Laid P hgl Gg W.heap.size W){n f:Nat}
  {ts:List TypeId} (ha:zea P ts [.u8]=true) {H:Type} {enc:TypeId×Value->H} {base:Nat} {args:Array Value} {ds:List (DataW H)} {ps:List MemPlace}
  (ht:DataW.TrodAll enc P W 0 (fun _=>true) true ts args.toList ds ps) (hv:∀ (j:Nat) t v,ts[j]?=some t->args.toList[j]?=some v->Value.okWide P W .any base t v)
  (hz:∃ (b0:Nat) (c:Array Value) (T:TypeId) (fr:Nat×Nat),W.heap[b0]?=some (.cells c T fr)) (hlaw:∀ b:UInt8,∃ h',wx P (zC P hk n) f [.int .u8 (b.toNat:Int)] hgl=some (.ret (.bool true) h')):
  Calls P f args W fun e W'=>e=.returned (.bool true)/\zhX W W':=by
 obtain⟨G,E,x,margs,h1,h2,h3,h4,h5⟩:=zcp (B:=W.heap.size) rfl hz ts [.u8] ha Gg hgl args.toList ds ps hL.hr ht hv
 obtain⟨a,t,rfl,ha1,ht1⟩:=h4
 cases(show t=[] from ht1)
 cases(show a=_ from ha1)
 obtain⟨h',hc⟩:=hlaw x.1
 have hx:VL Gg [.int .u8 ((x.1:UInt8).toNat:Int)] args.toList:=VL.kO rfl h3
 have hG:kS P W.heap.size W Gg W:=⟨hL.g,fun _ _=>rfl⟩
 obtain⟨k1,k2⟩:=wy hng (jh hmo hng (hh _ _ hL) n).1 (jh hmo hng (hh _ _ hL) n).2.2 hc hx hL.hr hG
 refine k1.mono fun e W' hcr=>?_
 obtain⟨g1,G',u,g2,g3⟩:=zfu rfl (fun loc v r hat=>hL.low _ _ _ hat) hcr
 cases g2
 exact⟨g3,g1⟩
end Go.Sx
