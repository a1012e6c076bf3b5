/- Machines and laws 5. -/
import Derived.Test.YtifkhebojenhnaaGreatDoorB4
import Derived.Test.YtifkhebojenhnaaGreatDoorB3
import Derived.ChangeArms
import Derived.ReadAgain
import Derived.ChangeSame
import Derived.Deep.DeepHandedRow
import Derived.Test.YtifkhebojenhnaaGreatDoorB1
import Derived.KernelRfl
import Derived.Shelf.Strings.OnBuilder
import Derived.Shelf.Strings.Split
import Derived.Shelf.Bytes.SlIndexWhole
import Derived.Shelf.Pu.ParseUintPublic10
set_option linter.unusedVariables false
set_option linter.unusedSectionVars false
set_option linter.unusedSimpArgs false
namespace Go.Sx
open Go Go.Gx Go.Mx
variable [j2]
inductive Lf where
 |b (x:Bool)|i (x:Int)|c (x:UInt8)|s (x:List UInt8)|n (x:Nat)
 |l (u:U) (x:List (El u))|e (u:U) (x:El u)
inductive PV where
 |drop|bool|int (k:IntKind)|u8|str|cst (v:AV)
 |isl (u:U)|zgv (u:U) (fo:Nat)|ptr (loc off lim:Nat)|zgV (g off lim:Nat)|gs (loc n:Nat)|zlR (loc n len:Nat)|sl (loc n:Nat) (c:Bool)|zhA (loc n fo:Nat)|map (loc:Nat)
 |fn (f:FuncId) (a b:List PV)|ifc (t:TypeId) (p:PV)|agg (l:List PV)|tup (l:List PV)|yld (loc:Nat)
 deriving Inhabited
inductive PB where
 |cells (l:List PV) (md:Nat) (mk:Option TypeId:=none)|seq (u:U) (n md:Nat) (fx:Bool)|map (ks vs:List PV) (md:Nat)|kv (u v:U) (md:Nat)|loop (env:List PV) (id md:Nat)|gone
 deriving Inhabited
def zsN(ph:List PB)(h:SH)(loc n k:Nat):Bool:=match ph[loc]?,h[loc]? with
 |some (.seq _ n' _ _),some (.seq _ _ m _)=>Nat.beq n' n&&Nat.beq m k
 |_,_=>false
mutual
def mV(ph:List PB)(h:SH):PV->SV->Option (List Lf)
 |.drop,_=>some []
 |.bool,.a (.bool b)=>some [.b b]
 |.int k,.a (.int k' n)=>if k=k' then some [.i n] else none
 |.u8,.u8 b=>some [.c b]
 |.str,.a (.str l)=>some [.s l]
 |.cst v,.a w=>match AV.beq v w with
  |true=>some []
  |false=>none
 |.isl u,.isl u' l=>match xr u' u l with
  |some l=>some [.l u l]
  |none=>none
 |.zgv u fo,.zgv u' x fo'=>if q:u'=u then(match Nat.beq fo fo' with|true=>some [.e u (q ▸ x)]|false=>none) else none
 |.ptr loc off lim,.ptr loc' off' lim'=>match Nat.beq loc loc'&&Nat.beq off off'&&Nat.beq lim lim'&&Nat.blt loc ph.length with
  |true=>some []
  |false=>none
 |.zgV g off lim,.zgV g' off' lim'=>match Nat.beq g g'&&Nat.beq off off'&&Nat.beq lim lim' with
  |true=>some []
  |false=>none
 |.gs loc n,.gs loc' k=>match Nat.beq loc loc'&&zsN ph h loc n k with
  |true=>some []
  |false=>none
 |.zlR loc n len,.zlR loc' k len'=>match Nat.beq loc loc'&&zsN ph h loc n k&&Nat.beq len len' with
  |true=>some []
  |false=>none
 |.sl loc n c,.sl loc' k off len c'=>match Nat.beq loc loc'&&zsN ph h loc n k&&c==c' with
  |true=>some [.n off,.n len]
  |false=>none
 |.zhA loc n fo,.zhA loc' k i fo'=>match Nat.beq loc loc'&&zsN ph h loc n k&&Nat.beq fo fo' with
  |true=>some [.n i]
  |false=>none
 |.map loc,.map loc'=>match Nat.beq loc loc'&&Nat.blt loc ph.length with
  |true=>some []
  |false=>none
 |.yld loc,.yld loc'=>match Nat.beq loc loc'&&Nat.blt loc ph.length with
  |true=>some []
  |false=>none
 |.fn f a b,.fn f' a' b'=>match Nat.beq f f',mVs ph h a a',mVs ph h b b' with
  |true,some x,some y=>some (x++y)
  |_,_,_=>none
 |.ifc t p,.ifc t' v=>match Nat.beq t t' with
  |true=>mV ph h p v
  |false=>none
 |.agg l,.agg l'=>mVs ph h l l'
 |.tup l,.tup l'=>mVs ph h l l'
 |_,_=>none
def mVs(ph:List PB)(h:SH):List PV->List SV->Option (List Lf)
 | [],[]=>some []
 |p::l,v::r=>match mV ph h p v,mVs ph h l r with
  |some x,some y=>some (x++y)
  |_,_=>none
 |_,_=>none
end
mutual
def iV:PV->List Lf->SV×List Lf
 |.bool,.b x::r=>(.a (.bool x),r)
 |.int k,.i x::r=>(.a (.int k x),r)
 |.u8,.c x::r=>(.u8 x,r)
 |.str,.s x::r=>(.a (.str x),r)
 |.cst v,r=>(.a v,r)
 |.isl u,.l u' x::r=>(.isl u' x,r)
 |.zgv u fo,.e u' x::r=>(.zgv u' x fo,r)
 |.ptr loc off lim,r=>(.ptr loc off lim,r)
 |.zgV loc off lim,r=>(.zgV loc off lim,r)
 |.gs loc n,r=>(.gs loc n,r)
 |.zlR loc n len,r=>(.zlR loc n len,r)
 |.sl loc n c,.n off::.n len::r=>(.sl loc n off len c,r)
 |.zhA loc n fo,.n i::r=>(.zhA loc n i fo,r)
 |.map loc,r=>(.map loc,r)
 |.yld loc,r=>(.yld loc,r)
 |.fn f a b,r=>(.fn f (iVs a r).1 (iVs b (iVs a r).2).1,(iVs b (iVs a r).2).2)
 |.ifc t p,r=>(.ifc t (iV p r).1,(iV p r).2)
 |.agg l,r=>(.agg (iVs l r).1,(iVs l r).2)
 |.tup l,r=>(.tup (iVs l r).1,(iVs l r).2)
 |_,r=>(.top,r)
def iVs:List PV->List Lf->List SV×List Lf
 | [],r=>([],r)
 |p::l,r=>((iV p r).1::(iVs l (iV p r).2).1,(iVs l (iV p r).2).2)
end
structure Mt(ph:List PB)(X Z:Gst):Prop where
 h:Z.h=X.h
 Φ:Z.Φ=X.Φ
 at_:∀ loc m,X.at loc m->loc<ph.length->Z.at loc m
 row:∀ (loc:Nat) (u:U) (n md:Nat) (fx:Bool) (u':U) (l:List (El u')) (k md':Nat),ph[loc]?=some (.seq u n md fx)->X.sh[loc]?=some (.seq u' l k md')->Z.sh[loc]?=some (.seq u' l n md')/\Z.σ[loc]?=X.σ[loc]?
theorem Mt.cur{ph:List PB}{X Z:Gst}(hM:Mt ph X Z){loc n k:Nat}(hr:zsN ph X.sh loc n k=true){Q:(u:U)->Nat->Option (Nat×Nat)->Prop}(q:X.cur loc k Q):Z.cur loc n Q:=by
 unfold zsN at hr
 split at hr
 ·rename_i u n' md fx u' l m md' hp hb
  simp only[Bool.and_eq_true] at hr
  have h1:=zg hr.1
  have h2:=zg hr.2
  subst h1;subst h2
  obtain⟨o,ho,hc⟩:=q
  obtain⟨h3,h4⟩:=hM.row loc u n' md fx u' l m md' hp hb
  refine⟨o,h4.trans ho,fun u2 l2 k2 md2 hb2=>?_⟩
  rw[h3] at hb2;cases hb2
  exact⟨Nat.le_refl _,fun _=>(hc _ _ _ _ hb).2 rfl⟩
 ·cases hr
mutual
theorem zll{ph:List PB}{X Z:Gst}(hM:Mt ph X Z):∀ (p:PV) {v:SV} {ls:List Lf} {x:AV},mV ph X.sh p v=some ls->RV X v x->∀ r,∃ w,iV p (ls++r)=(w,r)/\RV Z w x
 |.drop,v,ls,x,h,hv,r=>by simp [mV] at h;subst h;exact⟨.top,rfl,trivial⟩
 |.bool,v,ls,x,h,hv,r=>by
  cases v<;>first|(simp [mV] at h;done)|skip
  rename_i w;cases w<;>first|(simp [mV] at h;done)|skip
  simp [mV] at h;subst h;exact⟨_,rfl,hv⟩
 |.int k,v,ls,x,h,hv,r=>by
  cases v<;>first|(simp [mV] at h;done)|skip
  rename_i w;cases w<;>first|(simp [mV] at h;done)|skip
  simp [mV] at h;obtain⟨rfl,rfl⟩:=h;exact⟨_,rfl,hv⟩
 |.u8,v,ls,x,h,hv,r=>by
  cases v<;>first|(simp [mV] at h;done)|skip
  simp [mV] at h;subst h;exact⟨_,rfl,hv⟩
 |.str,v,ls,x,h,hv,r=>by
  cases v<;>first|(simp [mV] at h;done)|skip
  rename_i w;cases w<;>first|(simp [mV] at h;done)|skip
  simp [mV] at h;subst h;exact⟨_,rfl,hv⟩
 |.cst c,v,ls,x,h,hv,r=>by
  cases v<;>first|(simp [mV] at h;done)|skip
  simp only[mV] at h
  split at h
  ·rename_i hb;cases h;exact⟨_,rfl,by rw[AV.beq_eq _ _ hb];exact hv⟩
  ·cases h
 |.isl u,v,ls,x,h,hv,r=>by
  cases v<;>first|(simp [mV] at h;done)|skip
  simp only[mV] at h
  split at h
  ·rename_i l hc
   obtain⟨e1,e2⟩:=qi hc
   subst e1;cases e2;cases h
   exact⟨_,rfl,by show RSl Z.h Z.Φ _ _ _ _;rw[hM.h,hM.Φ];exact hv⟩
  ·cases h
 |.zgv u fo,v,ls,x,h,hv,r=>by
  cases v<;>first|(simp [mV] at h;done)|skip
  simp only[mV] at h
  split at h
  ·rename_i hq
   subst hq
   split at h
   ·rename_i hfo
    have hfo:=zg hfo
    subst hfo
    cases h
    obtain⟨m,off,ver,lim,cs,h1,h2,h3,h4,h5,h6⟩:=hv
    exact⟨_,rfl,m,off,ver,lim,cs,h1,by rw[hM.Φ];exact h2,h3,by rw[hM.h];exact h4,h5,by rw[hM.h,hM.Φ];exact h6⟩
   ·cases h
  ·cases h
 |.ptr loc off lim,v,ls,x,h,hv,r=>by
  cases v<;>first|(simp [mV] at h;done)|skip
  simp only[mV] at h
  split at h
  ·rename_i hb
   simp only[Bool.and_eq_true] at hb
   obtain⟨⟨⟨h1,h2⟩,h3⟩,h4⟩:=hb
   have h1:=zg h1;have h2:=zg h2;have h3:=zg h3
   subst h1;subst h2;subst h3;cases h
   obtain⟨m,q1,q2⟩:=hv
   exact⟨_,rfl,m,hM.at_ _ _ q1 (jI h4),q2⟩
  ·cases h
 |.zgV g off lim,v,ls,x,h,hv,r=>by
  cases v<;>first|(simp [mV] at h;done)|skip
  simp only[mV] at h
  split at h
  ·rename_i hb
   simp only[Bool.and_eq_true] at hb
   obtain⟨⟨h1,h2⟩,h3⟩:=hb
   have h1:=zg h1;have h2:=zg h2;have h3:=zg h3
   subst h1;subst h2;subst h3;cases h
   exact⟨_,rfl,hv⟩
  ·cases h
 |.zlR loc n len,v,ls,x,h,hv,r=>by
  cases v<;>first|(simp [mV] at h;done)|skip
  simp only[mV] at h
  split at h
  ·rename_i hb
   simp only[Bool.and_eq_true] at hb
   obtain⟨⟨h1,h2⟩,h3⟩:=hb
   have h1:=zg h1;have h3:=zg h3
   subst h1;subst h3;cases h
   exact⟨_,rfl,hv.1,hM.cur h2 hv.2⟩
  ·cases h
 |.gs loc n,v,ls,x,h,hv,r=>by
  cases v<;>first|(simp [mV] at h;done)|skip
  simp only[mV] at h
  split at h
  ·rename_i hb
   simp only[Bool.and_eq_true] at hb
   have h1:=zg hb.1
   subst h1;cases h
   exact⟨_,rfl,hv.1,hM.cur hb.2 hv.2⟩
  ·cases h
 |.sl loc n c,v,ls,x,h,hv,r=>by
  cases v<;>first|(simp [mV] at h;done)|skip
  simp only[mV] at h
  split at h
  ·rename_i hb
   simp only[Bool.and_eq_true,beq_iff_eq] at hb
   obtain⟨⟨h1,h2⟩,rfl⟩:=hb
   have h1:=zg h1
   subst h1;cases h
   exact⟨_,rfl,hv.1,hM.cur h2 hv.2⟩
  ·cases h
 |.zhA loc n fo,v,ls,x,h,hv,r=>by
  cases v<;>first|(simp [mV] at h;done)|skip
  simp only[mV] at h
  split at h
  ·rename_i hb
   simp only[Bool.and_eq_true] at hb
   obtain⟨⟨h1,h2⟩,h3⟩:=hb
   have h1:=zg h1;have h3:=zg h3
   subst h1;subst h3;cases h
   exact⟨_,rfl,hv.1,hM.cur h2 hv.2⟩
  ·cases h
 |.map loc,v,ls,x,h,hv,r=>by
  cases v<;>first|(simp [mV] at h;done)|skip
  simp only[mV] at h
  split at h
  ·rename_i hb
   simp only[Bool.and_eq_true] at hb
   have h1:=zg hb.1
   subst h1;cases h
   obtain⟨m,q1,q2⟩:=hv
   exact⟨_,rfl,m,hM.at_ _ _ q1 (jI hb.2),q2⟩
  ·cases h
 |.yld loc,v,ls,x,h,hv,r=>by
  cases v<;>first|(simp [mV] at h;done)|skip
  simp only[mV] at h
  split at h
  ·rename_i hb
   simp only[Bool.and_eq_true] at hb
   have h1:=zg hb.1
   subst h1;cases h
   obtain⟨m,q1,q2⟩:=hv
   exact⟨_,rfl,m,hM.at_ _ _ q1 (jI hb.2),q2⟩
  ·cases h
 |.fn f a b,v,ls,x,h,hv,r=>by
  cases v<;>first|(simp [mV] at h;done)|skip
  simp only[mV] at h
  split at h
  ·rename_i l1 l2 hf h1 h2
   have hf:=zg hf
   subst hf;cases h
   obtain⟨a',b',rfl,q1,q2⟩:=hv
   obtain⟨wa,e1,q3⟩:=j6 hM a h1 q1 (l2++r)
   obtain⟨wb,e2,q4⟩:=j6 hM b h2 q2 r
   refine⟨.fn f wa wb,?_,a',b',rfl,q3,q4⟩
   simp only[iV,List.append_assoc,e1,e2]
  ·cases h
 |.ifc t p,v,ls,x,h,hv,r=>by
  cases v<;>first|(simp [mV] at h;done)|skip
  simp only[mV] at h
  split at h
  ·rename_i ht
   have ht:=zg ht
   subst ht
   obtain⟨y,rfl,q1⟩:=hv
   obtain⟨w,e1,q2⟩:=zll hM p h q1 r
   exact⟨.ifc t w,by simp only[iV,e1],y,rfl,q2⟩
  ·cases h
 |.agg l,v,ls,x,h,hv,r=>by
  cases v<;>first|(simp [mV] at h;done)|skip
  simp only[mV] at h
  obtain⟨y,rfl,q1⟩:=hv
  obtain⟨w,e1,q2⟩:=j6 hM l h q1 r
  exact⟨.agg w,by simp only[iV,e1],y,rfl,q2⟩
 |.tup l,v,ls,x,h,hv,r=>by
  cases v<;>first|(simp [mV] at h;done)|skip
  simp only[mV] at h
  obtain⟨y,rfl,q1⟩:=hv
  obtain⟨w,e1,q2⟩:=j6 hM l h q1 r
  exact⟨.tup w,by simp only[iV,e1],y,rfl,q2⟩
theorem j6{ph:List PB}{X Z:Gst}(hM:Mt ph X Z):∀ (p:List PV) {v:List SV} {ls:List Lf} {x:List AV},mVs ph X.sh p v=some ls->RVs X v x->∀ r,∃ w,iVs p (ls++r)=(w,r)/\RVs Z w x
 | [],v,ls,x,h,hv,r=>by
  cases v with
  |nil=>simp [mVs] at h;subst h;exact⟨[],rfl,hv⟩
  |cons=>simp [mVs] at h
 |p::l,v,ls,x,h,hv,r=>by
  cases v with
  |nil=>simp [mVs] at h
  |cons v vs=>
   simp only[mVs] at h
   split at h
   ·rename_i l1 l2 h1 h2
    cases h
    obtain⟨y,ys,rfl,q1,q2⟩:=hv
    obtain⟨wa,e1,q3⟩:=zll hM p h1 q1 (l2++r)
    obtain⟨wb,e2,q4⟩:=j6 hM l h2 q2 r
    refine⟨wa::wb,?_,y,ys,rfl,q3,q4⟩
    simp only[iVs,List.append_assoc,e1,e2]
   ·cases h
end
end Go.Sx
namespace Go.Sx
open Go Go.Gx Go.Mx
variable [j2]
mutual
theorem ztk{ph:List PB}{h0:SH}:∀ (p:PV) {v:SV} {ls:List Lf},mV ph h0 p v=some ls->∀ r,∃ w,iV p (ls++r)=(w,r)
 |.drop,v,ls,h,r=>by simp [mV] at h;subst h;exact⟨_,rfl⟩
 |.bool,v,ls,h,r=>by
  cases v<;>first|(simp [mV] at h;done)|skip
  rename_i w;cases w<;>first|(simp [mV] at h;done)|skip
  simp [mV] at h;subst h;exact⟨_,rfl⟩
 |.int k,v,ls,h,r=>by
  cases v<;>first|(simp [mV] at h;done)|skip
  rename_i w;cases w<;>first|(simp [mV] at h;done)|skip
  simp [mV] at h;obtain⟨rfl,rfl⟩:=h;exact⟨_,rfl⟩
 |.u8,v,ls,h,r=>by
  cases v<;>first|(simp [mV] at h;done)|skip
  simp [mV] at h;subst h;exact⟨_,rfl⟩
 |.str,v,ls,h,r=>by
  cases v<;>first|(simp [mV] at h;done)|skip
  rename_i w;cases w<;>first|(simp [mV] at h;done)|skip
  simp [mV] at h;subst h;exact⟨_,rfl⟩
 |.cst c,v,ls,h,r=>by
  cases v<;>first|(simp [mV] at h;done)|skip
  simp only[mV] at h
  split at h
  ·cases h;exact⟨_,rfl⟩
  ·cases h
 |.isl u,v,ls,h,r=>by
  cases v<;>first|(simp [mV] at h;done)|skip
  simp only[mV] at h
  split at h
  ·cases h;exact⟨_,rfl⟩
  ·cases h
 |.ptr loc off lim,v,ls,h,r=>by
  cases v<;>first|(simp [mV] at h;done)|skip
  simp only[mV] at h
  split at h
  ·cases h;exact⟨_,rfl⟩
  ·cases h
 |.zgV g off lim,v,ls,h,r=>by
  cases v<;>first|(simp [mV] at h;done)|skip
  simp only[mV] at h
  split at h
  ·cases h;exact⟨_,rfl⟩
  ·cases h
 |.zlR loc n len,v,ls,h,r=>by
  cases v<;>first|(simp [mV] at h;done)|skip
  simp only[mV] at h
  split at h
  ·cases h;exact⟨_,rfl⟩
  ·cases h
 |.gs loc n,v,ls,h,r=>by
  cases v<;>first|(simp [mV] at h;done)|skip
  simp only[mV] at h
  split at h
  ·cases h;exact⟨_,rfl⟩
  ·cases h
 |.sl loc n c,v,ls,h,r=>by
  cases v<;>first|(simp [mV] at h;done)|skip
  simp only[mV] at h
  split at h
  ·cases h;exact⟨_,rfl⟩
  ·cases h
 |.zhA loc n fo,v,ls,h,r=>by
  cases v<;>first|(simp [mV] at h;done)|skip
  simp only[mV] at h
  split at h
  ·cases h;exact⟨_,rfl⟩
  ·cases h
 |.map loc,v,ls,h,r=>by
  cases v<;>first|(simp [mV] at h;done)|skip
  simp only[mV] at h
  split at h
  ·cases h;exact⟨_,rfl⟩
  ·cases h
 |.yld loc,v,ls,h,r=>by
  cases v<;>first|(simp [mV] at h;done)|skip
  simp only[mV] at h
  split at h
  ·cases h;exact⟨_,rfl⟩
  ·cases h
 |.zgv u fo,v,ls,h,r=>by
  cases v<;>first|(simp [mV] at h;done)|skip
  simp only[mV] at h
  split at h
  ·split at h
   ·cases h;exact⟨_,rfl⟩
   ·cases h
  ·cases h
 |.fn f a b,v,ls,h,r=>by
  cases v<;>first|(simp [mV] at h;done)|skip
  simp only[mV] at h
  split at h
  ·rename_i l1 l2 hf h1 h2
   cases h
   obtain⟨wa,e1⟩:=zcE a h1 (l2++r)
   obtain⟨wb,e2⟩:=zcE b h2 r
   exact⟨.fn f wa wb,by simp only[iV,List.append_assoc,e1,e2]⟩
  ·cases h
 |.ifc t p,v,ls,h,r=>by
  cases v<;>first|(simp [mV] at h;done)|skip
  simp only[mV] at h
  split at h
  ·obtain⟨w,e1⟩:=ztk p h r
   exact⟨.ifc t w,by simp only[iV,e1]⟩
  ·cases h
 |.agg l,v,ls,h,r=>by
  cases v<;>first|(simp [mV] at h;done)|skip
  simp only[mV] at h
  obtain⟨w,e1⟩:=zcE l h r
  exact⟨.agg w,by simp only[iV,e1]⟩
 |.tup l,v,ls,h,r=>by
  cases v<;>first|(simp [mV] at h;done)|skip
  simp only[mV] at h
  obtain⟨w,e1⟩:=zcE l h r
  exact⟨.tup w,by simp only[iV,e1]⟩
theorem zcE{ph:List PB}{h0:SH}:∀ (p:List PV) {v:List SV} {ls:List Lf},mVs ph h0 p v=some ls->∀ r,∃ w,iVs p (ls++r)=(w,r)
 | [],v,ls,h,r=>by
  cases v with
  |nil=>simp [mVs] at h;subst h;exact⟨[],rfl⟩
  |cons=>simp [mVs] at h
 |p::l,v,ls,h,r=>by
  cases v with
  |nil=>simp [mVs] at h
  |cons v vs=>
   simp only[mVs] at h
   split at h
   ·rename_i l1 l2 h1 h2
    cases h
    obtain⟨wa,e1⟩:=ztk p h1 (l2++r)
    obtain⟨wb,e2⟩:=zcE l h2 r
    exact⟨wa::wb,by simp only[iVs,List.append_assoc,e1,e2]⟩
   ·cases h
end
theorem zm9{X Z:Gst}(hh:Z.h=X.h)(hΦ:Z.Φ=X.Φ):∀ (u:U) (x:El u) {ys:List AV},RVs X (enc u x) ys->RVs Z (enc u x) ys
 |.bool,_,_,q=>q
 |.int _,_,_,q=>q
 |.u8,_,_,q=>q
 |.str,_,_,q=>q
 |.sl u,l,_,⟨y,ys,e,q1,q2⟩=>⟨y,ys,e,by show RSl Z.h Z.Φ false u l y;rw[hh,hΦ];exact q1,q2⟩
 |.pair u v,x,_,q=>by
  rename_i ys
  have h1:=q.take (enc u x.1).length
  have h2:=q.drop (enc u x.1).length
  rw[show enc (.pair u v) x=enc u x.1++enc v x.2 from rfl] at h1 h2
  rw[List.take_left] at h1
  rw[List.drop_left] at h2
  have:=(zm9 hh hΦ u x.1 h1).append (zm9 hh hΦ v x.2 h2)
  rwa [List.take_append_drop] at this
 |.unit,_,_,q=>q
theorem zsG{X Z:Gst}(hh:Z.h=X.h)(hΦ:Z.Φ=X.Φ):∀ (u:U) (x:El u) {y:AV},RV X (zjM u x) y->RV Z (zjM u x) y
 |.bool,_,_,q=>q
 |.int _,_,_,q=>q
 |.u8,_,_,q=>q
 |.str,_,_,q=>q
 |.sl u,l,y,q=>by show RSl Z.h Z.Φ false u l y;rw[hh,hΦ];exact q
 |.pair u v,x,_,⟨ys,e,q⟩=>⟨ys,e,zm9 hh hΦ (.pair u v) x q⟩
 |.unit,_,_,q=>q
theorem zrV{α:Type}{X Z:Gst}(hh:Z.h=X.h)(hΦ:Z.Φ=X.Φ)(u:U)(f:α->El u):∀ (l:List α) {ys:List AV},RVs X (l.map fun p=>zjM u (f p)) ys->RVs Z (l.map fun p=>zjM u (f p)) ys
 | [],_,q=>q
 |p::l,_,⟨y,ys,e,q1,q2⟩=>⟨y,ys,e,zsG hh hΦ u _ q1,zrV hh hΦ u f l q2⟩
def mB(ph:List PB)(h:SH):PB->SB->Option (List Lf)
 |.cells l md mk,.cells l' md' mk'=>match Nat.beq md md'&&mkB mk mk' with
  |true=>mVs ph h l l'
  |false=>none
 |.loop pe id md,.loop e id' md'=>match Nat.beq md md'&&Nat.beq id id' with
  |true=>mVs ph h pe e
  |false=>none
 |.seq u n md fx,.seq u' l k md'=>match Nat.beq md md'&&((!fx||Nat.beq k n)&&mkB (mkS n) (mkS k)),xr u' u l with
  |true,some l=>some [.l u l]
  |_,_=>none
 |.map ks vs md,.map ks' vs' md'=>match Nat.beq md md',mVs ph h ks ks',mVs ph h vs vs' with
  |true,some a,some b=>some (a++b)
  |_,_,_=>none
 |.kv u v md,b=>match b with
  |.kv u' v' l md'=>match Nat.beq md md',xr (.pair u' v') (.pair u v) l with
   |true,some l=>some [.l (.pair u v) l]
   |_,_=>none
  |.map ks vs md'=>match Nat.beq md md',ks,vs with
   |true,[],[]=>some [.l (.pair u v) []]
   |_,_,_=>none
  |_=>none
 |.gone,_=>some []
 |_,_=>none
def mBs(ph:List PB)(h:SH):List PB->List SB->Option (List Lf)
 | [],_=>some []
 |p::l,b::r=>match mB ph h p b,mBs ph h l r with
  |some x,some y=>some (x++y)
  |_,_=>none
 |_,_=>none
def iB:PB->List Lf->SB×List Lf
 |.cells l md mk,r=>(.cells (iVs l r).1 md mk,(iVs l r).2)
 |.seq u n md fx,.l u' x::r=>(.seq u' x n md,r)
 |.map ks vs md,r=>(.map (iVs ks r).1 (iVs vs (iVs ks r).2).1 md,(iVs vs (iVs ks r).2).2)
 |.kv u v md,.l (.pair u' v') x::r=>(.kv u' v' x md,r)
 |.loop pe id md,r=>(.loop (iVs pe r).1 id md,(iVs pe r).2)
 |_,r=>(.gone,r)
def iBs:List PB->List Lf->List SB×List Lf
 | [],r=>([],r)
 |p::l,r=>((iB p r).1::(iBs l (iB p r).2).1,(iBs l (iB p r).2).2)
structure PS where
 env:List PV
 h:List PB
def mS(p:PS)(st:SS):Option (List Lf):=match mVs p.h st.h p.env st.env,mBs p.h st.h p.h st.h with
 |some x,some y=>some (x++y)
 |_,_=>none
def iS(p:PS)(ls:List Lf):SS:=⟨(iVs p.env ls).1,(iBs p.h (iVs p.env ls).2).1⟩
def Lk(pb:PB)(b b':SB):Prop:=(pb=.gone/\b'=.gone) \/
 (∃ l l' md mk mk',mkB mk mk'=true/\b=.cells l md mk'/\b'=.cells l' md mk/\∃ pl,pb=.cells pl md mk)\/(∃ u l k n md,b=.seq u l k md/\b'=.seq u l n md/\∃ fx,pb=.seq u n md fx/\(fx=true->k=n)/\mkB (mkS n) (mkS k)=true)\/(∃ ks vs ks' vs' md,b=.map ks vs md/\b'=.map ks' vs' md/\∃ pk pv,pb=.map pk pv md)\/(∃ u v l md,((∃ l',b=.kv u v l' md)\/b=.map [] [] md)/\b'=.kv u v l md/\pb=.kv u v md)\/(∃ e e' id md,b=.loop e id md/\b'=.loop e' id md/\∃ pe,pb=.loop pe id md)
theorem ztj{ph:List PB}{h0:SH}{p:PB}{b:SB}{ls:List Lf}(h:mB ph h0 p b=some ls)(r:List Lf):∃ w,iB p (ls++r)=(w,r)/\Lk p b w:=by
 unfold mB at h
 split at h
 ·split at h
  ·rename_i l md mk l' md' mk' _ hb
   simp only[Bool.and_eq_true] at hb
   obtain⟨hb,hmk⟩:=hb
   have hb:=zg hb
   subst hb
   obtain⟨w,e⟩:=zcE _ h r
   exact⟨.cells w md mk,by simp only[iB,e],.inr (.inl ⟨_,_,_,_,_,hmk,rfl,rfl,_,rfl⟩)⟩
  ·cases h
 ·split at h
  ·rename_i pe id md e id' md' _ hb
   simp only[Bool.and_eq_true] at hb
   cases zg hb.1;cases zg hb.2
   obtain⟨w,e⟩:=zcE _ h r
   exact⟨.loop w id md,by simp only[iB,e],.inr (.inr (.inr (.inr (.inr ⟨_,_,_,_,rfl,rfl,_,rfl⟩))))⟩
  ·cases h
 ·split at h
  ·rename_i u n md fx u' l k md' _ _ l2 hb hc
   simp only[Bool.and_eq_true,Bool.or_eq_true,Bool.not_eq_true'] at hb
   obtain⟨hb,hfx,hmk⟩:=hb
   have hb:=zg hb
   subst hb
   obtain⟨e1,e2⟩:=qi hc
   subst e1;cases e2;cases h
   exact⟨.seq u' l n md,rfl,.inr (.inr (.inl ⟨_,_,_,_,_,rfl,rfl,_,rfl,fun e=>hfx.elim (fun h=>by rw[e] at h;cases h) zg,hmk⟩))⟩
  ·cases h
 ·split at h
  ·rename_i ks vs md ks' vs' md' _ _ _ a b' hb h1 h2
   have hb:=zg hb
   subst hb
   cases h
   obtain⟨w1,e1⟩:=zcE _ h1 (b'++r)
   obtain⟨w2,e2⟩:=zcE _ h2 r
   exact⟨.map w1 w2 md,by simp only[iB,List.append_assoc,e1,e2],.inr (.inr (.inr (.inl ⟨_,_,_,_,_,rfl,rfl,_,_,rfl⟩)))⟩
  ·cases h
 ·rename_i u v md
  split at h
  ·split at h
   ·rename_i u' v' l' md' _ _ l2 hb hc
    have hb:=zg hb
    subst hb
    obtain⟨e1,e2⟩:=qi hc
    cases e1;cases e2;cases h
    exact⟨.kv u v l' md,rfl,.inr (.inr (.inr (.inr (.inl ⟨_,_,_,_,.inl ⟨_,rfl⟩,rfl,rfl⟩))))⟩
   ·cases h
  ·split at h
   ·rename_i ks vs md' hb
    have hb:=zg hb
    subst hb
    cases h
    exact⟨.kv u v [] md,rfl,.inr (.inr (.inr (.inr (.inl ⟨_,_,_,_,.inr rfl,rfl,rfl⟩))))⟩
   ·cases h
  ·cases h
 ·cases h;exact⟨.gone,rfl,.inl ⟨rfl,rfl⟩⟩
 ·cases h
theorem zqX{ph:List PB}{h0:SH}:∀ {pl:List PB} {bl:List SB} {ls:List Lf},mBs ph h0 pl bl=some ls->∀ r,∃ zs,iBs pl (ls++r)=(zs,r)/\zs.length=pl.length/\pl.length<=bl.length/\∀ (i:Nat) (b':SB),zs[i]?=some b'->∃ pb b,pl[i]?=some pb/\bl[i]?=some b/\Lk pb b b'
 | [],bl,ls,h,r=>by simp [mBs] at h;subst h;exact⟨[],rfl,rfl,Nat.zero_le _,fun i b' h=>by simp at h⟩
 |p::pl,bl,ls,h,r=>by
  cases bl with
  |nil=>simp [mBs] at h
  |cons b bl=>
   simp only[mBs] at h
   split at h
   ·rename_i l1 l2 h1 h2
    cases h
    obtain⟨w,e1,k1⟩:=ztj h1 (l2++r)
    obtain⟨zs,e2,k2,k3,k4⟩:=zqX h2 r
    refine⟨w::zs,by simp only[iBs,List.append_assoc,e1,e2],by simp [k2],by simp [k3],fun i b' hi=>?_⟩
    cases i with
    |zero=>simp at hi;subst hi;exact⟨p,b,rfl,rfl,k1⟩
    |succ i=>simpa using k4 i b' (by simpa using hi)
   ·cases h
theorem zpC{ph:List PB}{X Z:Gst}(hM:Mt ph X Z){p:PB}{b:SB}{ls:List Lf}(h:mB ph X.sh p b=some ls){o:Option (Nat×Nat)}(hB:RB X b o)(r:List Lf):RB Z (iB p (ls++r)).1 o:=by
 unfold mB at h
 split at h
 ·split at h
  ·rename_i hb
   simp only[Bool.and_eq_true] at hb
   obtain⟨m,l',tt,e,h1,h2⟩:=hB
   obtain⟨w,e1,q⟩:=j6 hM _ h h2 r
   obtain⟨tt',htt⟩:=znN hb.2 tt
   simp only[iB,e1]
   exact⟨m,l',tt',e,by rw[hM.h,<- htt];exact h1,q⟩
  ·cases h
 ·split at h
  ·obtain⟨m,env',ps,asg,body,e,h1,h2,h3⟩:=hB
   rename_i hb
   simp only[Bool.and_eq_true] at hb
   cases zg hb.2
   obtain⟨w,e1,q⟩:=j6 hM _ h h3 r
   simp only[iB,e1]
   exact⟨m,env',ps,asg,body,e,h1,by rw[hM.h];exact h2,q⟩
  ·cases h
 ·split at h
  ·rename_i u n md fx u' l k md' _ _ l2 hb hc
   obtain⟨e1,e2⟩:=qi hc
   subst e1;cases e2;cases h
   simp only[Bool.and_eq_true] at hb
   obtain⟨hb,_,hmk⟩:=hb
   have hb:=zg hb
   subst hb
   cases o with
   |none=>exact hB
   |some p=>
    obtain⟨m,ver⟩:=p
    obtain⟨cells,minv,tt,h1,h2,h3,h4⟩:=hB
    obtain⟨tt',htt⟩:=znN hmk tt
    refine⟨cells,minv,tt',by rw[hM.h,<- htt];exact h1,h2,by rw[hM.h,hM.Φ];exact h3,fun e=>by rw[hM.Φ];exact h4 e⟩
  ·cases h
 ·split at h
  ·rename_i ks vs md ks' vs' md' _ _ _ a b' hb h1 h2
   cases h
   obtain⟨m,es,e,q1,q2,q3⟩:=hB
   obtain⟨w1,e1,r1⟩:=j6 hM _ h1 q2 (b'++r)
   obtain⟨w2,e2,r2⟩:=j6 hM _ h2 q3 r
   simp only[iB,List.append_assoc,e1,e2]
   exact⟨m,es,e,by rw[hM.h];exact q1,r1,r2⟩
  ·cases h
 ·rename_i u v md
  split at h
  ·split at h
   ·rename_i u' v' l' md' _ _ l2 hb hc
    obtain⟨e1,e2⟩:=qi hc
    cases e1;cases e2;cases h
    have hb:=zg hb
    subst hb
    obtain⟨m,es,e,q1,q2,q3⟩:=hB
    exact⟨m,es,e,by rw[hM.h];exact q1,zrV hM.h hM.Φ _ _ _ q2,zrV hM.h hM.Φ _ _ _ q3⟩
   ·cases h
  ·split at h
   ·rename_i hb
    cases h
    obtain⟨m,es,e,q1,q2,q3⟩:=hB
    exact⟨m,es,e,by rw[hM.h];exact q1,q2,q3⟩
   ·cases h
  ·cases h
 ·trivial
 ·cases h
theorem zi4{ph:List PB}{X Z:Gst}(hM:Mt ph X Z):∀ {pl:List PB} {bl:List SB} {ls:List Lf},mBs ph X.sh pl bl=some ls->∀ (r:List Lf) (i:Nat) (b b':SB) (o:Option (Nat×Nat)),(iBs pl (ls++r)).1[i]?=some b'->bl[i]?=some b->RB X b o->RB Z b' o
 | [],bl,ls,h,r,i,b,b',o,hz,hb,hB=>by simp [iBs] at hz
 |p::pl,bl,ls,h,r,i,b,b',o,hz,hb,hB=>by
  cases bl with
  |nil=>simp [mBs] at h
  |cons b0 bl=>
   simp only[mBs] at h
   split at h
   ·rename_i l1 l2 h1 h2
    cases h
    obtain⟨w,e1,k1⟩:=ztj h1 (l2++r)
    cases i with
    |zero=>
     simp only[List.getElem?_cons_zero,Option.some.injEq] at hb
     subst hb
     simp only[iBs,List.getElem?_cons_zero,Option.some.injEq,List.append_assoc] at hz
     subst hz
     exact zpC hM h1 hB _
    |succ i=>
     simp only[iBs,List.getElem?_cons_succ,List.append_assoc,e1] at hz
     exact zi4 hM h2 r i b b' o hz (by simpa using hb) hB
   ·cases h
end Go.Sx
namespace Go.Sx
open Go Go.Gx Go.Mx
variable [j2]
theorem Dk.zwC{k:Nat×Option Nat}{X:Gst}{h:zf}{Φ:Nat->Prop}{σ:List (Option (Nat×Nat))}{sh:SH}{dl:List Dfd}{rnd:Option Nat}(q:Dk k X dl rnd)(hh:h=X.h)(hΦ:Φ=X.Φ)
  (hσ:∀ (i:Nat) (o:Option (Nat×Nat)),σ[i]?=some o->X.σ[i]?=some o) (hz:∀ (i m v:Nat) (b:SB),sh[i]?=some b->σ[i]?=some (some (m,v))->k.2=some m->Kp X m->b=.gone):Dk k ⟨h,Φ,σ,sh⟩ dl rnd:=by
 subst hh;subst hΦ
 exact⟨q.base,q.nd,fun d hd=>let⟨m,h1,h2,h3,h4,h5⟩:=q.dl d hd;⟨m,h1,h2,h3,⟨h4.lt,h4.phi,fun i v b hb ho=>absurd (hσ i _ ho) (h5 i v)⟩,fun i v e=>h5 i v (hσ i _ e)⟩,q.rnd,fun m hm=>let⟨h1,h2⟩:=q.lo m hm;⟨h1,h2.lt,h2.phi,fun i v b hb ho=>hz i m v b hb ho hm h2⟩⟩
theorem weaken{X0 Y:Gst}(hr0:RH X0)(hS:Stp X0 Y){q:PS}{st:SS}{ms:St}{k0:Nat×Option Nat}(hst:StR k0 Y st ms){os:List Lf}(hm:mS q st=some os)(hlen:X0.sh.length<=q.h.length)
  (hver:∀ (loc:Nat) (u:U) (n md:Nat) (fx:Bool),q.h[loc]?=some (.seq u n md fx)->loc<X0.sh.length->∃ u' l k md',X0.sh[loc]?=some (.seq u' l k md')/\(k<n\/(fx=true/\k=n)))
  (K:Nat->Bool) (hK:∀ i,K i=true->i<X0.sh.length/\Y.sh[i]?=some .gone/\Y.σ[i]?=X0.σ[i]? /\ ∀ m v,X0.σ[i]?=some (some (m,v))->Y.h[m]?=X0.h[m]? /\ (Y.Φ m->X0.Φ m))
  (hlo:∀ m,k0.2=some m->Kp X0 m) {zh:SH} (hzl:zh.length=(iS q os).h.length) (hz:∀ i,zh[i]?=if K i=true then X0.sh[i]? else(iS q os).h[i]?):
  ∃ Z,Stp X0 Z/\StR k0 Z ⟨(iS q os).env,zh⟩ ms/\Z.h=Y.h/\Z.Φ=Y.Φ/\Z.σ=Y.σ.take q.h.length/\∀ (i:Nat),q.h[i]?=some .gone->(iS q os).h[i]?=some .gone:=by
 unfold mS at hm
 split at hm
 ·rename_i l1 l2 h1 h2
  cases hm
  rw[<- hst.sh] at h1 h2
  obtain⟨we,e1⟩:=zcE q.env h1 l2
  obtain⟨zs,e2,k1,k2,k3⟩:=zqX h2 []
  rw[List.append_nil] at e2
  have hiS:iS q (l1++l2)=⟨we,zs⟩:=by unfold iS;rw[e1,e2]
  rw[hiS] at hz hzl |-
  have hzl:zh.length=zs.length:=hzl
  have hz:∀ (i:Nat),zh[i]?=if K i=true then X0.sh[i]? else zs[i]?:=hz
  have hσn:(Y.σ.take q.h.length).length=q.h.length:=by rw[List.length_take,hS.hr.len];omega
  have hσg:∀ (i:Nat),i<q.h.length->(Y.σ.take q.h.length)[i]?=Y.σ[i]?:=fun i hi=>by rw[List.getElem?_take,if_pos hi]
  have hσs:∀ (i:Nat) o,(Y.σ.take q.h.length)[i]?=some o->Y.σ[i]?=some o/\i<q.h.length:=fun i o h=>by
   rw[List.getElem?_take] at h;split at h
   ·rename_i hi;exact⟨h,hi⟩
   ·cases h
  have hzs:∀ (i:Nat),i<q.h.length->∃ b',zs[i]?=some b':=fun i hi=>⟨zs[i]'(by omega),List.getElem?_eq_getElem _⟩
  have hM:Mt q.h Y ⟨Y.h,Y.Φ,Y.σ.take q.h.length,zh⟩:=by
   refine⟨rfl,rfl,fun loc m ⟨v,h⟩ hl=>⟨v,(hσg loc hl).trans h⟩,fun loc u n md fx u' l k md' hp hb=>?_⟩
   have hl:=(List.getElem?_eq_some_iff.1 hp).1
   refine⟨?_,hσg loc hl⟩
   show zh[loc]?=_
   rw[hz,if_neg (fun hk=>by have:=(hK loc hk).2.1;rw[hb] at this;cases this)]
   obtain⟨b',hb'⟩:=hzs loc hl
   obtain⟨pb,b,h3,h4,h5⟩:=k3 loc b' hb'
   rw[hp] at h3;cases h3
   rw[hb] at h4;cases h4
   rw[hb']
   rcases h5 with⟨h,_⟩|⟨_,_,_,_,_,_,_,_,_,h⟩|⟨u3,l3,k4,n3,md3,h6,h7,fx3,h8,hfx3,_⟩|⟨_,_,_,_,_,_,_,_,_,h⟩|⟨_,_,_,_,_,_,h⟩|⟨_,_,_,_,_,_,_,h⟩
   ·cases h
   ·cases h
   ·cases h6;cases h8;rw[h7]
   ·cases h
   ·cases h
   ·cases h
  obtain⟨we',e3,hwe⟩:=j6 hM q.env h1 hst.env l2
  rw[e1] at e3
  cases e3
  have hle:X0.le ⟨Y.h,Y.Φ,Y.σ.take q.h.length,zh⟩:=by
   refine⟨hS.le.h,hS.le.Φ,by show _<=(Y.σ.take q.h.length).length;rw[hσn,hr0.len];exact hlen,fun loc m v h=>?_,fun loc u l k md hl hs=>?_,hS.le.shl⟩
   ·obtain⟨v',h'⟩:=hS.le.at_ loc m v h
    have:=(List.getElem?_eq_some_iff.1 h).1
    exact⟨v',(hσg loc (by rw[hr0.len] at this;omega)).trans h'⟩
   ·have hs:zh[loc]?=some (.seq u l k md):=hs
    rw[hz] at hs
    split at hs
    ·rename_i hk
     exact⟨l,k,md,hs,Nat.le_refl _,fun _=>⟨rfl,(hσg loc (by omega)).trans (hK loc hk).2.2.1⟩⟩
    ·obtain⟨pb,b,h3,h4,h5⟩:=k3 loc _ hs
     rcases h5 with⟨_,h⟩|⟨_,_,_,_,_,_,_,h,_⟩|⟨u3,l3,k4,n3,md3,h6,h7,fx3,h8,hfx3,_⟩|⟨_,_,_,_,_,_,h,_⟩|⟨_,_,_,_,_,h,_⟩|⟨_,_,_,_,_,h,_⟩
     ·cases h
     ·cases h
     ·cases h7
      subst h6;subst h8
      obtain⟨u',l0,k0,md0,h9,h10⟩:=hver loc _ _ _ _ h3 hl
      obtain⟨l',k',md',h11,h12,h13⟩:=hS.le.seq loc _ _ _ _ hl h4
      rw[h9] at h11;cases h11
      rcases h10 with h10|⟨h10,h14⟩
      ·exact⟨_,_,_,h9,Nat.le_of_lt h10,fun e=>absurd e (by omega)⟩
      ·have hk:=hfx3 h10
       subst hk;subst h14
       obtain⟨q1,q2⟩:=h13 rfl
       exact⟨_,_,_,h9,Nat.le_refl _,fun _=>⟨q1,(hσg loc (by omega)).trans q2⟩⟩
     ·cases h
     ·cases h
     ·cases h
  refine⟨⟨Y.h,Y.Φ,Y.σ.take q.h.length,zh⟩,⟨hle,⟨?_,fun i j m v v' h3 h4=>?_,fun i m v h3=>?_,hS.hr.Φlt,fun i b o h3 h4=>?_,fun i m v b h3 h4 h5=>?_⟩,⟨hS.fm.len,hS.fm.h,fun i b hb hmd=>?_,fun i m v h3 hm=>?_,fun i h3=>?_,hS.fm.phi⟩⟩,⟨hwe,rfl,hst.h,hst.dk.zwC rfl rfl (fun i o e=>(hσs i o e).1) fun i m v b h3 h4 hkm hk=>?_⟩,rfl,rfl,rfl,fun i hi=>?_⟩
  ·show(Y.σ.take q.h.length).length=zh.length;rw[hσn,hzl,k1]
  ·exact hS.hr.inj _ _ _ _ _ (hσs _ _ h3).1 (hσs _ _ h4).1
  ·exact hS.hr.lt _ _ _ (hσs _ _ h3).1
  ·have h3:zh[i]?=some b:=h3
   obtain⟨h4,h5⟩:=hσs _ _ h4
   rw[hz] at h3
   split at h3
   ·rename_i hk
    obtain⟨q1,q2,q3,q4⟩:=hK i hk
    rw[q3] at h4
    exact(hr0.blk i b o h3 h4).le hle fun m v e=>(q4 m v (e ▸ h4)).1
   ·obtain⟨pb,b0,h6,h7,h8⟩:=k3 i _ h3
    have:=zi4 hM h2 [] i b0 b o (by rw[List.append_nil,e2];exact h3) h7 (hS.hr.blk i b0 o h7 h4)
    exact this
  ·have h3:zh[i]?=some b:=h3
   obtain⟨h4,h6⟩:=hσs _ _ h4
   rw[hz] at h3
   split at h3
   ·rename_i hk
    obtain⟨q1,q2,q3,q4⟩:=hK i hk
    rw[q3] at h4
    exact hr0.own i m v b h3 h4 ((q4 m v h4).2 h5)
   ·obtain⟨pb,b0,h6,h7,h8⟩:=k3 i _ h3
    have ho:=hS.hr.own i m v b0 h7 h4 h5
    rcases h8 with⟨_,h⟩|⟨_,_,_,_,_,_,rfl,rfl,_⟩|⟨_,_,_,_,_,rfl,rfl,_⟩|⟨_,_,_,_,_,rfl,rfl,_⟩|⟨_,_,_,_,⟨_,rfl⟩|rfl,rfl,_⟩|⟨_,_,_,_,rfl,rfl,_⟩
    ·exact .inr h
    ·exact ho.imp id fun h=>by cases h
    ·exact ho.imp id fun h=>by cases h
    ·exact ho.imp id fun h=>by cases h
    ·exact ho.imp id fun h=>by cases h
    ·exact ho.imp id fun h=>by cases h
    ·exact ho.imp id fun h=>by cases h
  ·have hi:=(List.getElem?_eq_some_iff.1 hb).1
   show ∃ b',zh[i]?=some b'/\_
   rw[hz]
   split
   ·exact⟨b,hb,hmd⟩
   ·obtain⟨b',hb'⟩:=hzs i (by omega)
    obtain⟨pb,b0,h6,h7,h8⟩:=k3 i _ hb'
    obtain⟨b2,h9,h10⟩:=hS.fm.md i b hb hmd
    rw[h7] at h9;cases h9
    refine⟨b',hb',?_⟩
    rcases h8 with⟨_,rfl⟩|⟨_,_,_,_,_,_,rfl,rfl,_⟩|⟨_,_,_,_,_,rfl,rfl,_⟩|⟨_,_,_,_,_,rfl,rfl,_⟩|⟨_,_,_,_,⟨_,rfl⟩|rfl,rfl,_⟩|⟨_,_,_,_,rfl,rfl,_⟩
    ·simp [SB.md]
    ·exact h10
    ·exact h10
    ·exact h10
    ·exact h10
    ·exact h10
    ·exact h10
  ·exact hS.fm.new i m v (hσs _ _ h3).1 hm
  ·have hi:=(List.getElem?_eq_some_iff.1 h3).1
   obtain⟨h4,h5⟩:=hS.fm.gone i h3
   refine⟨?_,(hσg i (by omega)).trans h5⟩
   show zh[i]?=_
   rw[hz]
   split
   ·exact h3
   ·obtain⟨b',hb'⟩:=hzs i (by omega)
    obtain⟨pb,b0,h6,h7,h8⟩:=k3 i _ hb'
    rw[h4] at h7;cases h7
    rcases h8 with⟨_,rfl⟩|⟨_,_,_,_,_,_,h,_⟩|⟨_,_,_,_,_,h,_⟩|⟨_,_,_,_,_,h,_⟩|⟨_,_,_,_,⟨_,h⟩|h,_⟩|⟨_,_,_,_,h,_⟩
    ·exact hb'
    ·cases h
    ·cases h
    ·cases h
    ·cases h
    ·cases h
    ·cases h
  ·obtain⟨h4,h5⟩:=hσs _ _ h4
   have h3:zh[i]?=some b:=h3
   rw[hz] at h3
   split at h3
   ·rename_i hk2
    obtain⟨q1,q2,q3,q4⟩:=hK i hk2
    exact(hlo m hkm).gone i v b h3 (by rw[<- q3];exact h4)
   ·obtain⟨pb,b0,h6,h7,h8⟩:=k3 i _ h3
    have hg0:=hk.gone i v b0 h7 h4
    subst hg0
    rcases h8 with⟨_,h⟩|⟨_,_,_,_,_,_,h,_⟩|⟨_,_,_,_,_,h,_⟩|⟨_,_,_,_,_,h,_⟩|⟨_,_,_,_,⟨_,h⟩|h,_⟩|⟨_,_,_,_,h,_⟩
    ·exact h
    ·cases h
    ·cases h
    ·cases h
    ·cases h
    ·cases h
    ·cases h
  ·have hl:=(List.getElem?_eq_some_iff.1 hi).1
   obtain⟨b',hb'⟩:=hzs i hl
   obtain⟨pb,b0,h6,h7,h8⟩:=k3 i _ hb'
   rw[hi] at h6;cases h6
   rcases h8 with⟨_,rfl⟩|⟨_,_,_,_,_,_,_,_,_,h⟩|⟨_,_,_,_,_,_,_,_,h,_⟩|⟨_,_,_,_,_,_,_,_,_,h⟩|⟨_,_,_,_,_,_,h⟩|⟨_,_,_,_,_,_,_,h⟩
   ·exact hb'
   ·cases h
   ·cases h
   ·cases h
   ·cases h
   ·cases h
 ·cases hm
end Go.Sx
namespace Go.Sx
open Go Go.Gx Go.Mx
variable [j2]
def prN(t:Nat):Nat:=t/1099511627776*65536
def zlx:List (Nat×U)->SS->SS
 | [],st=>st
 |(t,u)::l,st=>match t % 1099511627776/65536 with
  |0=>match st.env[t % 65536]? with
   |some (.a .qp)=>zlx l ⟨st.env.set (t % 65536) (.gs st.h.length (prN t)),st.h++[.seq u [] (prN t) 0]⟩
   |_=>zlx l st
  |loc+1=>match st.h[loc]? with
   |some (.cells cs 0 mk)=>match cs[t % 65536]? with
    |some (.a .qp)=>zlx l ⟨st.env,(st.h++[SB.seq u [] (prN t) 0]).set loc (.cells (cs.set (t % 65536) (.gs st.h.length (prN t))) 0 mk)⟩
    |_=>zlx l st
   |_=>zlx l st
def zu3:SV->SV->Bool
 |.ifc t (.agg []),.ifc t' (.agg [])=>Nat.beq t t'
 |_,_=>false
theorem zse{X Z:Gst}{v w:SV}{x:AV}(h:zu3 v w=true)(hv:RV X w x):RV Z v x:=by
 unfold zu3 at h
 split at h
 ·have:=zg h
  subst this
  obtain⟨y,rfl,l,rfl,hl⟩:=hv
  cases(show l=[] from hl)
  exact⟨_,rfl,[],rfl,rfl⟩
 ·cases h
def ztY:SX->SX->Bool
 |.ret,.ret=>true
 |.exit i,.exit j=>Nat.beq i j
 |.panic v,.panic w=>zu3 v w
 |_,_=>false
def zkx(e:SX)(st:SS){R:Type}(out:Nat->List Lf->Option R):List (SX×PS)->Nat->Option R
 | [],_=>none
 |(x,q)::l,k=>match ztY x e with
  |true=>match mS q st with
   |some os=>out k os
   |none=>zkx e st out l (k+1)
  |false=>zkx e st out l (k+1)
def round(P:Program)(gl:GL)(ct:CT)(n:Nat)(pl:Pl)(p:PS)(outs:List (SX×PS))(c:Code){R:Type}(ls:List Lf)(rec_:List Lf->Option R)(out:Nat->List Lf->Option R):Option R:=
 wY P gl ct n pl c (iS p ls) fun e st'=>match e with
  |.normal=>match mS p st' with
   |some ls'=>rec_ ls'
   |none=>none
  |e=>zkx e st' out outs 0
abbrev LS:=(R:Type)->List Lf->(Nat->List Lf->Option R)->Option R
def zpe:List PB->SH->Bool
 |.seq _ n _ fx::p,b::h=>(match b with
  |.seq _ _ k _=>Nat.blt k n||(fx&&Nat.beq k n)
  |_=>false)&&zpe p h
 |_::p,_::h=>zpe p h
 |_,_=>true
def back:SH->List PB->SH->SH
 |b0::h0,.gone::p,b::h=>(match b with
  |.gone=>b0
  |b=>b)::back h0 p h
 |_::h0,_::p,b::h=>b::back h0 p h
 |_,_,h=>h
def zjp(n:Nat)(h:SH):List (SX×PS)->Bool
 | []=>true
 |(_,q)::l=>Nat.ble n q.h.length&&zpe q.h h&&zjp n h l
def zU(pre:List (Nat×U))(p:PS)(outs:List (SX×PS))(F:LS):LF:=fun R st K=>
 match mS p (zlx pre st),Nat.beq p.h.length (zlx pre st).h.length&&zpe p.h (zlx pre st).h&&zjp (zlx pre st).h.length (zlx pre st).h outs with
 |some ls,true=>F R ls fun k os=>match outs[k]? with
  |some (x,q)=>K x ⟨(iS q os).env,back (zlx pre st).h p.h (iS q os).h⟩
  |none=>none
 |_,_=>none
theorem zd2:∀ {p:List PB} {h:SH},zpe p h=true->∀ (loc:Nat) (u:U) (n md:Nat) (fx:Bool),p[loc]?=some (.seq u n md fx)->loc<h.length->∃ u' l k md',h[loc]?=some (.seq u' l k md')/\(k<n\/(fx=true/\k=n))
 | [],h,hv,loc,u,n,md,fx,hp,hl=>by simp at hp
 |q::p,[],hv,loc,u,n,md,fx,hp,hl=>by simp at hl
 |q::p,b::h,hv,loc,u,n,md,fx,hp,hl=>by
  cases loc with
  |zero=>
   simp at hp;subst hp
   simp only[zpe,Bool.and_eq_true] at hv
   cases b with
   |seq u' l k md'=>
    simp only[Bool.or_eq_true,Bool.and_eq_true] at hv
    exact⟨u',l,k,md',rfl,hv.1.imp jI fun h=>⟨h.1,zg h.2⟩⟩
   |_=>simp at hv
  |succ loc=>
   have hv':zpe p h=true:=by
    cases q<;>simp only[zpe,Bool.and_eq_true] at hv<;>first|exact hv|exact hv.2
   simpa using zd2 hv' loc u n md fx (by simpa using hp) (by simpa using hl)
theorem zf6{n:Nat}{h:SH}:∀ {outs:List (SX×PS)},zjp n h outs=true->∀ (k:Nat) (x:SX) (q:PS),outs[k]?=some (x,q)->n<=q.h.length/\zpe q.h h=true
 | [],_,k,x,q,hk=>by simp at hk
 |(x0,q0)::l,ho,k,x,q,hk=>by
  simp only[zjp,Bool.and_eq_true] at ho
  cases k with
  |zero=>simp at hk;obtain⟨rfl,rfl⟩:=hk;exact⟨Nat.le_of_ble_eq_true ho.1.1,ho.1.2⟩
  |succ k=>exact zf6 ho.2 k x q (by simpa using hk)
def kept(h0:SH)(p:List PB)(h:SH)(i:Nat):Bool:=match h0[i]?,p[i]?,h[i]? with
 |some _,some .gone,some .gone=>true
 |_,_,_=>false
theorem zk7:∀ {h0:SH} {p:List PB} {h:SH} (i:Nat),(back h0 p h)[i]?=if kept h0 p h i=true then h0[i]? else h[i]?
 | [],p,h,i=>by simp [back,kept]
 |b0::h0,[],h,i=>by simp [back,kept]
 |b0::h0,q::p,[],i=>by cases q<;>simp [back,kept]
 |b0::h0,q::p,b::h,i=>by
  cases i with
  |zero=>cases q<;>cases b<;>simp [back,kept]
  |succ i=>
   have:=zk7 (h0:=h0) (p:=p) (h:=h) i
   cases q<;>simp only[back,List.getElem?_cons_succ,kept]<;>exact this
theorem zfJ:∀ {h0:SH} {p:List PB} {h:SH},(back h0 p h).length=h.length
 | [],p,h=>by simp [back]
 |b0::h0,[],h=>by simp [back]
 |b0::h0,q::p,[]=>by cases q<;>simp [back]
 |b0::h0,q::p,b::h=>by
  have:=zfJ (h0:=h0) (p:=p) (h:=h)
  cases q<;>simp only[back,List.length_cons,this]
section
variable {P:Program} {gl:GL} {ct:CT} {hk:ja}
theorem zsa{X:Gst}(hr:RH X)(u:U)(n:Nat):RV ⟨X.h,X.Φ,X.σ++[none],X.sh++[.seq u [] n 0]⟩ (.gs X.sh.length n) .qp:=by
 refine⟨rfl,none,?_,fun u' l' k' md' hb'=>?_⟩
 ·show(X.σ++[_])[X.sh.length]?=_
  rw[<- hr.len,List.getElem?_append_right (Nat.le_refl _),Nat.sub_self];rfl
 ·have hb':(X.sh++[SB.seq u [] n 0])[X.sh.length]?=some (.seq u' l' k' md'):=hb'
  rw[List.getElem?_append_right (Nat.le_refl _),Nat.sub_self] at hb'
  cases hb'
  exact⟨Nat.le_refl _,fun _=>⟨rfl,rfl⟩⟩
theorem xB{k:Nat×Option Nat}:∀ {pre:List (Nat×U)} {X:Gst} {st:SS} {ms:St},RH X->StR k X st ms->∃ Y,Stp X Y/\StR k Y (zlx pre st) ms
 | [],X,st,ms,hr,hs=>⟨X,.refl hr,hs⟩
 |(t,u)::l,X,st,ms,hr,hs=>by
  have S1:=Stp.ztD hr (b:=.seq u [] (prN t) 0) (by simp [SB.md]) (fun _=>rfl)
  have hgs:=zsa hr u (prN t)
  rw[hs.sh] at hgs
  simp only[zlx]
  split
  ·split
   ·rename_i ht
    obtain⟨x,h1,h2⟩:=hs.env.get ht
    cases(show x=_ from h2)
    rw[hs.sh] at S1
    have henv:=(hs.env.le S1.le).set (t % 65536) hgs
    rw[jn h1] at henv
    obtain⟨Y,S2,hs2⟩:=xB (pre:=l) (st:=⟨st.env.set (t % 65536) (.gs st.h.length (prN t)),st.h++[.seq u [] (prN t) 0]⟩) S1.hr ⟨henv,rfl,hs.h,hs.dk.step hr S1⟩
    exact⟨Y,S1.trans S2,hs2⟩
   ·exact xB hr hs
  ·rename_i loc ht
   split
   ·rename_i cs mk hb
    split
    ·rename_i hc
     rw[hs.sh] at S1
     have hloc:=(List.getElem?_eq_some_iff.1 hb).1
     have hb1:(st.h++[SB.seq u [] (prN t) 0])[loc]?=some (.cells cs 0 mk):=by rw[List.getElem?_append_left hloc];exact hb
     have hso:loc<X.σ.length:=by rw[hr.len,hs.sh];exact hloc
     have ho1:(X.σ++[none])[loc]?=some X.σ[loc]:=by rw[List.getElem?_append_left hso];exact List.getElem?_eq_getElem hso
     obtain⟨m,l',tt,e1,e2,e3⟩:=S1.hr.blk _ _ _ hb1 ho1
     have S2:Stp ⟨X.h,X.Φ,X.σ++[none],st.h++[.seq u [] (prN t) 0]⟩ ⟨X.h,X.Φ,X.σ++[none],(st.h++[SB.seq u [] (prN t) 0]).set loc (.cells (cs.set (t % 65536) (.gs st.h.length (prN t))) 0 mk)⟩:=by
      refine Stp.turn S1.hr (o':=X.σ[loc]) (b':=.cells (cs.set (t % 65536) (.gs st.h.length (prN t))) 0 mk) hb1 ho1 (by simp) (fun _ _ _=>rfl) (fun _ _ _=>.inl rfl) (Nat.le_refl _) (fun m=>⟨.inl,fun h=>h.elim id fun h=>by cases h.1⟩) (jn ho1).symm rfl (fun m v h=>?_) (fun m v h=>⟨v,h⟩) (fun u l k md h=>by cases h) (fun h=>absurd rfl h) (fun h=>by rcases h with h|h<;>cases h) (fun hle=>?_)
      ·exact⟨S1.hr.lt _ _ _ (h ▸ ho1),.inl ⟨v,h⟩⟩
      ·have hset:=(e3.le hle).set (t % 65536) (hgs.le hle)
       obtain⟨x,q1,q2⟩:=e3.get hc
       cases(show x=_ from q2)
       rw[jn q1] at hset
       exact⟨m,l',tt,e1,e2,hset⟩
     obtain⟨Y,S3,hs3⟩:=xB (pre:=l) (st:=⟨st.env,(st.h++[SB.seq u [] (prN t) 0]).set loc (.cells (cs.set (t % 65536) (.gs st.h.length (prN t))) 0 mk)⟩) S2.hr ⟨hs.env.le (S1.trans S2).le,rfl,hs.h,hs.dk.step hr (S1.trans S2)⟩
     exact⟨Y,S1.trans (S2.trans S3),hs3⟩
    ·exact xB hr hs
   ·exact xB hr hs
structure Inv(X0:Gst)(p:PS)(Y:Gst):Prop where
 stp:Stp X0 Y
 kept:∀ (i:Nat),p.h[i]?=some .gone->i<X0.sh.length->Y.sh[i]?=some .gone/\Y.σ[i]?=X0.σ[i]? /\ ∀ m v,X0.σ[i]?=some (some (m,v))->Y.h[m]?=X0.h[m]? /\ (Y.Φ m->X0.Φ m)
theorem Inv.step{X0 Y Z:Gst}{p:PS}(h:Inv X0 p Y)(hr0:RH X0)(hS:Stp Y Z):Inv X0 p Z:=by
 refine⟨h.stp.trans hS,fun i hi hl=>?_⟩
 obtain⟨h1,h2,h3⟩:=h.kept i hi hl
 obtain⟨h4,h5⟩:=hS.fm.gone i h1
 refine⟨h4,h5.trans h2,fun m v hm=>?_⟩
 obtain⟨h6,h7⟩:=h3 m v hm
 have hmY:m<Y.h.length:=h.stp.hr.lt i m v (h2.trans hm)
 refine⟨(hS.fm.h m hmY fun i' v' b' hb' hs'=>?_).trans h6,fun hΦ=>?_⟩
 ·have:=h.stp.hr.inj _ _ _ _ _ hs' (h2.trans hm)
  subst this
  rw[h1] at hb';cases hb';simp [SB.md]
 ·rcases hS.fm.phi m hmY hΦ with h8|⟨i',v',b',h8,h9,h10⟩
  ·exact h7 h8
  ·have:=h.stp.hr.inj _ _ _ _ _ h9 (h2.trans hm)
   subst this
   rw[h1] at h8;cases h8;exact absurd rfl h10
theorem zer{e:SX}{st:SS}{R:Type}{out:Nat->List Lf->Option R}{r:R}:∀ {outs:List (SX×PS)} {k:Nat},zkx e st out outs k=some r->∃ j x q os,outs[j]?=some (x,q)/\ztY x e=true/\mS q st=some os/\out (k+j) os=some r
 | [],k,h=>by simp [zkx] at h
 |(x,q)::l,k,h=>by
  simp only[zkx] at h
  split at h
  ·rename_i hx
   split at h
   ·rename_i os hos;exact⟨0,x,q,os,rfl,hx,hos,h⟩
   ·obtain⟨j,x',q',os,h1,h2,h3,h4⟩:=zer h
    exact⟨j+1,x',q',os,h1,h2,h3,by rwa [Nat.add_right_comm] at h4⟩
  ·obtain⟨j,x',q',os,h1,h2,h3,h4⟩:=zer h
   exact⟨j+1,x',q',os,h1,h2,h3,by rwa [Nat.add_right_comm] at h4⟩
theorem iter(hct:zmD P gl ct hk){n:Nat}{pl:Pl}{c:Code}(hpl:wH P gl hk pl c){p:PS}{outs:List (SX×PS)}{X0:Gst}(hr0:RH X0)(hg0:RGl P gl X0)(hlen:p.h.length=X0.sh.length)(hver:zpe p.h X0.sh=true)(hout:zjp X0.sh.length X0.sh outs=true)
  {O:Type} {G:Nat->List Lf->Option O} {od:Nat->List Lf->Option O} (h0:∀ ls,G 0 ls=none) (hs:∀ m ls o,G (m+1) ls=some o->round P gl ct n pl p outs c ls (G m) od=some o) {k0:Nat×Option Nat} (hlo:∀ m,k0.2=some m->Kp X0 m):
  ∀ (m:Nat) (ls:List Lf) (o:O),G m ls=some o->∀ (Y:Gst) (ms:St),Inv X0 p Y->StR k0 Y (iS p ls) ms ->
  ∃ k os x q Z me ms',od k os=some o/\outs[k]?=some (x,q)/\Stp X0 Z/\StR k0 Z ⟨(iS q os).env,back X0.sh p.h (iS q os).h⟩ ms'/\ExR Z x me/\Ev fun m=>qF P hk m (.loop c) ms=some (me,ms')
 |0,ls,o,h=>by rw[h0] at h;cases h
 |m+1,ls,o,h=>by
  intro Y ms hI hst
  have h:=hs m ls o h
  obtain⟨e,st',Y',me,ms',h1,S1,hs1,he1,ev1⟩:=(zcd hct n).1 pl c hpl k0 _ _ _ _ Y ms h hst hI.stp.hr (hg0.le hI.stp.le)
  have hI':=hI.step hr0 S1
  have key:zkx e st' od outs 0=some o->(∀ m,qF P hk m c ms=some (me,ms')->qF P hk (m+1) (.loop c) ms=some (me,ms')) ->
    ∃ k os x q Z me ms',od k os=some o/\outs[k]?=some (x,q)/\Stp X0 Z/\StR k0 Z ⟨(iS q os).env,back X0.sh p.h (iS q os).h⟩ ms'/\ExR Z x me/\Ev fun m=>qF P hk m (.loop c) ms=some (me,ms'):=by
   intro h1 hrun
   obtain⟨j,x,q,os,h2,h3,h4,h5⟩:=zer h1
   obtain⟨h6,h7⟩:=zf6 hout j x q h2
   obtain⟨Z,S2,hs2,hh,hΦ,hσ,hg⟩:=weaken hr0 hI'.stp hs1 h4 h6 (zd2 h7) (kept X0.sh p.h (iS q os).h) (fun i hi=>by
    unfold kept at hi
    split at hi
    ·rename_i a1 a2 a3
     have hl:=(List.getElem?_eq_some_iff.1 a1).1
     obtain⟨q1,q2,q3⟩:=hI'.kept i a2 hl
     exact⟨hl,q1,q2,q3⟩
    ·cases hi) hlo (zh:=back X0.sh p.h (iS q os).h) zfJ zk7
   refine⟨0+j,os,x,q,Z,me,ms',h5,by simpa using h2,S2,hs2,?_,Ev.succ (ev1.mono hrun)⟩
   cases x<;>cases e<;>first|cases h3|skip
   ·cases me<;>first|trivial|cases he1
   ·have:=zg h3
    subst this
    cases me<;>first|exact he1|cases he1
   ·cases me<;>first|exact zse h3 he1|cases he1
  cases e with
  |normal=>
   cases me<;>first|cases he1|skip
   simp only at h1
   split at h1
   ·rename_i ls' hls
    obtain⟨Z,S2,hs2,hh,hΦ,hσ,hg⟩:=weaken hr0 hI'.stp hs1 hls (by omega) (zd2 hver) (fun _=>false) (fun _ h=>by cases h) hlo (zh:=(iS p ls').h) rfl (fun i=>by simp)
    have hI2:Inv X0 p Z:=by
     refine⟨S2,fun i hi hl=>?_⟩
     obtain⟨q1,q2,q3⟩:=hI'.kept i hi hl
     refine⟨by rw[hs2.sh];exact hg i hi,?_,fun m v hm=>?_⟩
     ·rw[hσ,List.getElem?_take,if_pos (by omega)];exact q2
     ·rw[hh,hΦ];exact q3 m v hm
    obtain⟨k,os,x,q,Z',me2,ms2,h2,h2',S3,hs3,he3,ev2⟩:=iter hct hpl hr0 hg0 hlen hver hout h0 hs hlo m ls' o h1 Z ms' hI2 hs2
    exact⟨k,os,x,q,Z',me2,ms2,h2,h2',S3,hs3,he3,Ev.succ ((ev1.and ev2).mono fun n ⟨p,q⟩=>by simp only[qF,z6,p,q])⟩
   ·cases h1
  |ret=>
   cases me<;>first|cases he1|skip
   exact key h1 fun m p=>by simp only[qF,z6,p]
  |exit id=>
   cases me<;>first|cases he1|skip
   exact key h1 fun m p=>by simp only[qF,z6,p]
  |panic v=>
   cases me<;>first|cases he1|skip
   exact key h1 fun m p=>by simp only[qF,z6,p]
abbrev KC(O:Type):=(R:Type)->O->(Nat->List Lf->Option R)->Option R
theorem zl9(hct:zmD P gl ct hk){n:Nat}{pl:Pl}{c:Code}(hpl:wH P gl hk pl c){pre:List (Nat×U)}{p:PS}{outs:List (SX×PS)}
  {O:Type} {G:Nat->List Lf->Option O} {od:Nat->List Lf->Option O} {kc:KC O} (h0:∀ ls,G 0 ls=none) (hs:∀ m ls o,G (m+1) ls=some o->round P gl ct n pl p outs c ls (G m) od=some o)
  (hk':∀ k os o,od k os=some o->∀ R κ,kc R o κ=κ k os) (N:Nat):zjS P gl hk (.loop c) (zU pre p outs fun R ls κ=>(G N ls).bind fun o=>kc R o κ):=by
 intro k0 R st K r X ms h hst hr hg
 unfold zU at h
 obtain⟨X0,S0,hs0⟩:=xB (pre:=pre) hr hst
 generalize zlx pre st=st0 at h hs0
 split at h
 ·rename_i ls hls hok
  simp only[Bool.and_eq_true] at hok
  obtain⟨⟨h1,h2⟩,h3⟩:=hok
  have h1:=zg h1
  rw[<- hs0.sh] at h1 h2 h3
  obtain⟨o,ho,h4⟩:=Option.bind_eq_some_iff.1 h
  obtain⟨Z,S2,hs2,hh,hΦ,hσ,hgn⟩:=weaken S0.hr (Stp.refl S0.hr) hs0 hls (by omega) (zd2 h2) (fun _=>false) (fun _ h=>by cases h) (fun m e=>(hs0.dk.lo m e).2) (zh:=(iS p ls).h) rfl (fun i=>by simp)
  obtain⟨k,os,x,q,Z',me2,ms2,h5',h5,S3,hs3,he3,ev2⟩:=iter hct hpl S0.hr (hg.le S0.le) h1 h2 h3 h0 hs (fun m e=>(hs0.dk.lo m e).2) N ls o ho Z ms ⟨S2,fun i hi hl=>⟨by rw[hs2.sh];exact hgn i hi,by rw[hσ,List.getElem?_take,if_pos (by omega)],fun m v hm=>by rw[hh,hΦ];exact⟨rfl,id⟩⟩⟩ hs2
  rw[hk' k os o h5' R] at h4
  simp only[h5] at h4
  rw[hs0.sh] at hs3
  exact⟨x,_,Z',me2,ms2,h4,S0.trans S3,hs3,he3,ev2⟩
 ·cases h
def zuN(n:Nat)(a b:LF):LF:=fun R st K=>match Nat.beq st.h.length n with
 |true=>a R st K
 |false=>b R st K
theorem zs4{n:Nat}{a b:LF}{c:Code}(ha:zjS P gl hk c a)(hb:zjS P gl hk c b):zjS P gl hk c (zuN n a b):=by
 intro k0 R st K r X ms h hst hr hg
 unfold zuN at h
 split at h
 ·exact ha k0 R st K r X ms h hst hr hg
 ·exact hb k0 R st K r X ms h hst hr hg
end
end Go.Sx
namespace Go.Sx
open Go Go.Gx Go.Mx
variable [j2]
def zae:List U->U
 | []=>.unit
 |u::l=>.pair u (zae l)
def qQ:(us:List U)->El (zae us)->List SV
 | [],_=>[]
 |u::l,x=>zjM u x.1::qQ l x.2
def jK:(us:List U)->List SV->SH->Option (El (zae us)×SH)
 | [],[],h=>some ((),h)
 |u::us,v::vs,h=>match xj u v,dec u v.cells h with
  |true,some (x,[],h1)=>match jK us vs h1 with
   |some (y,h2)=>some ((x,y),h2)
   |none=>none
  |_,_=>none
 |_,_,_=>none
def unS(rs:List U)(v:SV):Option (List SV):=match rs with
 | [_]=>some [v]
 |_=>match v with
  |.tup vs=>some vs
  |_=>none
def zda(rs:List U):SC->Option (El (zae rs))
 |.ret v h=>match unS rs v with
  |some vs=>match jK rs vs h with
   |some (x,_)=>some x
   |none=>none
  |none=>none
 |.pan _ _=>none
def jl(us rs:List U)(F:El (zae us)->Option (El (zae rs))):CF:=fun R args h κ=>match jK us args h with
 |some (x,h')=>(F x).bind fun y=>κ (.ret (zlw (qQ rs y)) h')
 |none=>none
theorem zez{h:zf}{Φ:Nat->Prop}{Z:Gst}(hh:Z.h=h)(hΦ:Z.Φ=Φ){u:U}{x:El u}{cs:List AV}(q:RE h Φ u x cs):(u.agg=true->RV Z (zjM u x) (.agg cs))/\(u.agg=false->∀ c,cs=[c]->RV Z (zjM u x) c):=by
 subst hh;subst hΦ
 cases u with
 |bool=>exact⟨(fun h=>by cases h),fun _ c e=>by cases(show cs=_ from q);cases e;rfl⟩
 |int k=>exact⟨(fun h=>by cases h),fun _ c e=>by cases(show cs=_ from q);cases e;rfl⟩
 |u8=>exact⟨(fun h=>by cases h),fun _ c e=>by cases(show cs=_ from q);cases e;rfl⟩
 |str=>exact⟨(fun h=>by cases h),fun _ c e=>by cases(show cs=_ from q);cases e;rfl⟩
 |sl u=>exact⟨(fun h=>by cases h),fun _ c e=>by obtain⟨y,e2,q⟩:=zpg.1 q;rw[e] at e2;cases e2;exact q⟩
 |pair u v=>exact⟨fun _=>⟨cs,rfl,xU q⟩,fun h=>by cases h⟩
 |unit=>exact⟨fun _=>⟨cs,rfl,q⟩,fun h=>by cases h⟩
theorem jP:∀ (us:List U) {X:Gst} (hr:RH X) {vs:List SV} {xs:List AV} {x:El (zae us)} {h':SH},RVs X vs xs->jK us vs X.sh=some (x,h') ->
  ∃ Y,Stp X Y/\Y.h=X.h/\Y.sh=h'/\∀ Z:Gst,Z.h=Y.h->(∀ m,Y.Φ m->Z.Φ m)->RVs Z (qQ us x) xs
 | [],X,hr,vs,xs,x,h',hv,hd=>by
  cases vs with
  |nil=>simp only[jK] at hd;cases hd;cases(show xs=[] from hv);exact⟨X,.refl hr,rfl,rfl,fun Z _ _=>rfl⟩
  |cons=>simp [jK] at hd
 |u::us,X,hr,vs,xs,x,h',hv,hd=>by
  cases vs with
  |nil=>simp [jK] at hd
  |cons v vs=>
   obtain⟨a,t,rfl,q1,q2⟩:=hv
   simp only[jK] at hd
   split at hd
   ·rename_i y h1 hag hd1
    split at hd
    ·rename_i z h2 hd2
     cases hd
     have hc:∃ cs,RVs X v.cells cs/\((u.agg=true/\a=.agg cs)\/(u.agg=false/\cs=[a])):=by
      unfold xj at hag
      split at hag
      ·obtain⟨l',rfl,q⟩:=q1;exact⟨l',q,.inl ⟨hag,rfl⟩⟩
      ·rename_i hn
       have e1:v.cells=[v]:=by cases v<;>first|rfl|exact absurd rfl (hn _)
       refine⟨[a],e1 ▸ .one q1,.inr ⟨by simpa using hag,rfl⟩⟩
     obtain⟨cs,hcs,hca⟩:=hc
     obtain⟨Y,c1,c2,S1,hh1,hs1,e1,hRE,hr2⟩:=zb0 u hr hcs hd1
     cases(show c2=[] from hr2)
     rw[List.append_nil] at e1
     subst e1
     rw[<- hs1] at hd2
     obtain⟨W,S2,hh2,hs2,hW⟩:=jP us S1.hr (q2.le S1.le) hd2
     refine⟨W,S1.trans S2,hh2.trans hh1,hs2,fun Z hZ hΦ=>?_⟩
     have hRE':RE Z.h Z.Φ u y cs:=hRE.le (fun m hm=>by rw[hZ,hh2]) (fun m hm=>hΦ m (S2.le.Φ m hm))
     obtain⟨k1,k2⟩:=zez (Z:=Z) rfl rfl hRE'
     refine⟨a,t,rfl,?_,hW Z hZ hΦ⟩
     rcases hca with⟨hag,rfl⟩|⟨hag,rfl⟩
     ·exact k1 hag
     ·exact k2 hag a rfl
    ·cases hd
   ·cases hd
section
variable {P:Program} {gl:GL} {ct:CT} {hk:ja}
theorem zlU{f:FuncId}{us rs:List U}{F:El (zae us)->Option (El (zae rs))}{run:CF}(hrun:zgN P gl hk f run)
  (hF:∀ (Y:Gst) (x:El (zae us)) (margs:List AV),RVs Y (qQ us x) margs->∃ vs,RVs Y vs margs/\run _ vs [] (zda rs)=F x):zgN P gl hk f (jl us rs F):=by
 intro R args κ r X margs h hargs hr hg
 unfold jl at h
 split at h
 ·rename_i x h' hd
  obtain⟨Y,S1,hh1,hs1,hA⟩:=jP us hr hargs hd
  cases hFx:F x with
  |none=>rw[hFx] at h;cases h
  |some y=>
   rw[hFx] at h
   have hY:RH Y.base:=⟨rfl,fun i j m v v' h=>by simp [Gst.base] at h,fun i m v h=>by simp [Gst.base] at h,S1.hr.Φlt,fun i b o h=>by simp [Gst.base] at h,fun i m v b h=>by simp [Gst.base] at h⟩
   have hgY:RGl P gl Y.base:=fun g cs hg'=>(hg.le S1.le) g cs hg'
   obtain⟨vs0,hvs0,hF0⟩:=hF Y.base x margs (hA Y.base rfl fun _ h=>h)
   rw[<- hF0] at hFx
   obtain⟨q,Z,mq,h1,S2,hcr,ev⟩:=hrun _ _ _ _ Y.base margs hFx hvs0 hY hgY
   cases q with
   |pan v sh=>cases h1
   |ret v sh=>
    cases mq with
    |pan=>cases hcr
    |ret xv hv'=>
     obtain⟨e1,e2,hv⟩:=hcr
     simp only[zda] at h1
     split at h1
     ·rename_i vs hvs
      split at h1
      ·rename_i z h2 hd2
       cases h1
       rw[<- e1] at hd2
       have hun:∃ xs,RVs Z vs xs/\∀ W,(RVs W (qQ rs y) xs->RV W (zlw (qQ rs y)) xv):=by
        unfold unS at hvs
        split at hvs
        ·cases hvs
         exact⟨[xv],.one hv,fun W ⟨a,t,e,q,ht⟩=>by cases e;exact q⟩
        ·rename_i hrs
         split at hvs
         ·cases hvs
          obtain⟨l',rfl,q⟩:=hv
          refine⟨l',q,fun W hW=>?_⟩
          have:zlw (qQ rs y)=.tup (qQ rs y):=by
           match rs,y,hrs with
           | [],_,_=>rfl
           | [u],_,hrs=>exact absurd rfl (hrs u)
           |_::_::_,_,_=>rfl
          rw[this];exact⟨l',rfl,hW⟩
         ·cases hvs
       obtain⟨xs,hxs,hone⟩:=hun
       obtain⟨Z2,S3,hh3,hs3,hA3⟩:=jP rs S2.hr hxs hd2
       have S4:=S2.trans S3
       have hsame:∀ m,m<Y.h.length->Z2.h[m]?=Y.h[m]?:=fun m hm=>S4.fm.h m hm fun i v b hb=>by simp [Gst.base] at hb
       have hphi:∀ m,m<Y.h.length->Z2.Φ m->Y.Φ m:=fun m hm hΦ=>(S4.fm.phi m hm hΦ).elim id fun⟨i,v,b,hb,_⟩=>by simp [Gst.base] at hb
       have hle:Y.le ⟨Z2.h,Z2.Φ,Y.σ,Y.sh⟩:=⟨fun m hm=>hsame m (S1.hr.Φlt m hm),S4.le.Φ,Nat.le_refl _,fun _ _ v h=>⟨v,h⟩,fun _ _ l k md _ h=>⟨l,k,md,h,Nat.le_refl _,fun _=>⟨rfl,rfl⟩⟩,S1.hr.len⟩
       have S5:Stp Y ⟨Z2.h,Z2.Φ,Y.σ,Y.sh⟩:=by
        refine⟨hle,⟨S1.hr.len,S1.hr.inj,fun i m v h=>Nat.lt_of_lt_of_le (S1.hr.lt i m v h) S4.fm.len,S4.hr.Φlt,fun i b o hb ho=>(S1.hr.blk i b o hb ho).le hle fun m v e=>hsame m (S1.hr.lt i m v (e ▸ ho)),fun i m v b hb ho hΦ=>S1.hr.own i m v b hb ho (hphi m (S1.hr.lt i m v ho) hΦ)⟩,
         ⟨S4.fm.len,fun m hm _=>hsame m hm,fun i b hb hm=>⟨b,hb,hm⟩,fun i m v h _=>⟨v,h⟩,fun i h=>⟨h,rfl⟩,fun m hm hΦ=>.inl (hphi m hm hΦ)⟩⟩
       refine⟨_,_,.ret xv hv',h,S1.trans S5,⟨hs1,?_,hone _ (hA3 _ rfl fun _ h=>h)⟩,?_⟩
       ·show Z2.h=hv';rw[hh3,e2]
       ·rw[<- hh1];exact ev
      ·cases h1
     ·cases h1
 ·cases h
theorem zgR(hct:zmD P gl ct hk){n:Nat}{pl:Pl}{f:FuncId}{us rs:List U}{F:El (zae us)->Option (El (zae rs))}(hpl:∀ fn b,P.funcs[f]?=some fn->fn.body=some b->wH P gl hk pl b)
  (hF:∀ (Y:Gst) (x:El (zae us)) (margs:List AV),RVs Y (qQ us x) margs->∃ vs,RVs Y vs margs/\zaa P gl ct n pl f vs [] (zda rs)=F x):zgN P gl hk f (jl us rs F):=zlU (run:=fun R args h κ=>zaa P gl ct (R:=R) n pl f args h κ) ((zcd hct n).2.2.1 pl f hpl) hF
theorem zm0(hct:zmD P gl ct hk){n:Nat}{pl:Pl}{f:FuncId}{us rs:List U}{F:El (zae us)->Option (El (zae rs))}(hpl:∀ fn b,P.funcs[f]?=some fn->fn.body=some b->wH P gl hk pl b)
  (hF:∀ x,zaa P gl ct n pl f (qQ us x) [] (zda rs)=F x):zgN P gl hk f (jl us rs F):=zgR hct hpl fun Y x margs h=>⟨_,h,hF x⟩
theorem zhv(hct:zmD P gl ct hk){n:Nat}{pl:Pl}{f:FuncId}{u:U}{rs:List U}{F:List (El u)->Option (El (zae rs))}(hpl:∀ fn b,P.funcs[f]?=some fn->fn.body=some b->wH P gl hk pl b)
  (h1:∀ l,zaa P gl ct n pl f [.nsl u l] [] (zda rs)=F l) (h2:zaa P gl ct n pl f [.a .qp] [] (zda rs)=F []):zgN P gl hk f (jl [.sl u] rs fun x=>F x.1):=zgR hct hpl fun Y x margs ⟨a,t,e,q,ht⟩=>by
 obtain⟨l,⟨⟩⟩:=x
 rcases(show RSl Y.h Y.Φ false u l a from q) with⟨rfl,rfl⟩|h
 ·exact⟨[.a .qp],⟨_,t,e,rfl,ht⟩,h2⟩
 ·exact⟨[.nsl u l],⟨_,t,e,h,ht⟩,h1 l⟩
end
end Go.Sx
namespace Go.Mx
open Go Go.Gx
def AV.zfm:AV->Bool
 |.bool _|.int _ _|.str _|.zfi|.qp|.zfh|.zis|.zcr|.any|.opq=>true
 |_=>false
def AV.zuG:AV->Bool
 |.tup l=>l.all AV.zfm
 |v=>v.zfm
theorem V.zfm{G G':Gh}{v:AV}{u:Value}(hs:v.zfm=true)(h:V G v u):V G' v u:=by
 cases h<;>first|(cases hs;done)|constructor
theorem VL.zfm{G G':Gh}:∀ {l:List AV} {us:List Value},l.all AV.zfm=true->VL G l us->VL G' l us
 | [],us,_,h=>by cases h;exact .nil
 |x::l,us,hs,h=>by
  cases h with
  |cons h1 h2=>
   simp only[List.all_cons,Bool.and_eq_true] at hs
   exact .cons (V.zfm hs.1 h1) (VL.zfm hs.2 h2)
theorem V.zuG{G G':Gh}{v:AV}{u:Value}(hs:v.zuG=true)(h:V G v u):V G' v u:=by
 cases v with
 |tup l=>cases h with|tup h=>exact .tup (VL.zfm hs h)
 |_=>exact V.zfm hs h
structure Laid(P:Program)(hgl:zf)(Gg:Gh)(B:Nat)(W0:World):Prop where
 hr:HR Gg B hgl W0
 low:∀ loc v r,Gg.at loc v=some r->r.b<B
 g:∀ g,g<P.globals.size->∃ r,Gg.at g 0=some r/\r.b=g/\r.lo=0/\r.sh=0
def HOK(P:Program)(hgl:zf)(Gg:Gh)(hk:ja):Prop:=∀ B W0,Laid P hgl Gg B W0->zfB P B W0 hk
section
variable {P:Program} {hgl:zf} {Gg:Gh} {B:Nat} {W0 w:World}
theorem Laid.at(h:Laid P hgl Gg B W0)(hl:∀ b,b<B->w.heap[b]?=W0.heap[b]?)(hs:B<=w.heap.size){B':Nat}(hB:B<=B')(hs':B'<=w.heap.size):Laid P hgl Gg B' w:=by
 refine⟨⟨h.hr.len,fun loc b vs hb hg=>(h.hr.blk loc b vs hb hg).mono (Gh.le_refl _) fun v r hv=>hl _ (h.low loc v r (Gh.zbP hg hv)),fun loc v r hat=>Nat.lt_of_lt_of_le (h.low loc v r hat) hs,fun loc v r b hat hb=>?_,fun l1 l2 v1 v2 r1 r2 h1 _ hB1 _=>?_,hs'⟩,fun loc v r hat=>Nat.lt_of_lt_of_le (h.low loc v r hat) hB,h.g⟩
 ·have h1:=h.hr.own loc v r b hat hb
  have h2:=h.low loc v r hat
  exact⟨fun e=>by have:=h1.1 e;omega,fun e=>by omega⟩
 ·have:=h.low l1 v1 r1 h1;omega
theorem zjX(hmo:P.follows .mixedOrders=true)(hng:zmE P){hk:ja}(hh:HOK P hgl Gg hk)(hL:Laid P hgl Gg B W0){n f:Nat}{args:List AV}{h h':zf}{v:AV}
  (hc:zei P (qF P hk n) f args hgl=some (.ret v h')) (ha:args.all AV.zfm=true) (hs:v.zuG=true):ziw P B W0 f args h (.ret v h):=by
 intro G us w hx hr hg
 left
 have hL':Laid P hgl Gg w.heap.size w:=hL.at hg.low hr.base hr.base (Nat.le_refl _)
 have hg':zd8 P w.heap.size w Gg w:=⟨hL.g,fun _ _=>rfl⟩
 obtain⟨h1,h2⟩:=zc2 hng (za9 hmo hng (hh _ _ hL') n).1 (za9 hmo hng (hh _ _ hL') n).2.2 hc (VL.zfm ha hx) hL'.hr hg'
 refine⟨h1.mono fun e w' hcr=>?_,h2⟩
 obtain⟨G',hS,u,hv,rfl⟩:=hcr
 refine⟨G,Step.grow hr hS.fr.size (fun b hb=>hS.fr.low b hb fun loc v r hat hB e=>?_) hS.fr.os hS.fr.tape hS.fr.output,u,V.zuG hs hv,rfl⟩
 have:=hL'.low _ _ _ hat;omega
theorem znr(tab:List (FuncId×XK))(h:∀ f k,(f,k) ∈ tab->XFn P f k):HOK P hgl Gg (zo8 tab):=fun B W0 _=>zr3 h B W0
def ki(hk:ja)(f:FuncId)(g:List AV->zf->Option CR):ja:=fun k=>match Nat.beq k f with
 |true=>some g
 |false=>hk k
theorem zkf{hk:ja}(hh:HOK P hgl Gg hk){f:FuncId}{g:List AV->zf->Option CR}(hg:∀ B W0,Laid P hgl Gg B W0->∀ args h r,g args h=some r->ziw P B W0 f args h r):HOK P hgl Gg (ki hk f g):=by
 intro B W0 hL f' g' hg' args h r hr
 unfold ki at hg'
 cases hb:Nat.beq f' f with
 |true=>
  rw[hb] at hg'
  cases hg'
  have:=Nat.eq_of_beq_eq_true hb
  subst this
  exact hg B W0 hL args h r hr
 |false=>rw[hb] at hg';exact hh B W0 hL f' g' hg' args h r hr
end
section
variable {P:Program} {G:Gh} {B:Nat} {h:zf} {w:World}
theorem HR.ztC{blk:Blk}{r:Ver}(hr:HR G B h w)(ho:blk.own=false)(hlt:r.b<B)(hB:zmG (G++[[r]]) w blk [r]):HR (G++[[r]]) B (h++[blk]) w:=by
 have hone:∀ (v:Nat) (r':Ver),[r][v]?=some r'->r'=r:=by
  intro v r' hv
  cases v with
  |zero=>simp at hv;exact hv.symm
  |succ v=>simp at hv
 refine⟨by rw[Arr.zS,List.length_append,hr.len];rfl,?_,?_,?_,?_,hr.base⟩
 ·intro loc b vs' hl hg
  by_cases hlt:loc<h.length
  ·rw[Arr.qR hlt] at hl
   rw[List.getElem?_append_left (by rw[hr.len];exact hlt)] at hg
   exact(hr.blk loc b vs' hl hg).mono (Gh.zb4 _ _) fun v r hv=>rfl
  ·have hle:loc=h.length:=by
    have:=Arr.lt hl;rw[Arr.zS] at this;simp at this;omega
   subst hle
   rw[Arr.zT (by omega)] at hl
   rw[List.getElem?_append_right (by rw[hr.len];omega),hr.len] at hg
   simp at hl hg
   subst hl;subst hg;exact hB
 ·intro loc v r' hat
  rcases zbl hat with hat|⟨_,hat⟩
  ·exact hr.lt _ _ _ hat
  ·rw[hone _ _ hat];exact Nat.lt_of_lt_of_le hlt hr.base
 ·intro loc v r' b hat hl
  rcases zbl hat with hat|⟨hl',hat'⟩
  ·obtain⟨b',_,hb',_⟩:=hr.get hat
   have hlt:=Arr.lt hb'
   rw[Arr.qR hlt] at hl
   exact hr.own _ _ _ _ hat hl
  ·rw[hl',hr.len,Arr.zT (by omega)] at hl
   simp at hl;subst hl
   rw[ho,hone _ _ hat']
   exact Iff.intro (fun e=>by cases e) (fun e=>by omega)
 ·intro l1 l2 v1 v2 r1 r2 ha1 ha2 hB1 he
  rcases zbl ha1 with h1|⟨e1,h1⟩<;>rcases zbl ha2 with h2|⟨e2,h2⟩
  ·exact hr.apart _ _ _ _ _ _ h1 h2 hB1 he
  ·rw[hone _ _ h2] at he;omega
  ·rw[hone _ _ h1] at hB1;omega
  ·exact e1.trans e2.symm
theorem HR.zes{xs:List AV}{cs:List Value}{a:Addr}{c:Array Value}{T:TypeId}{fr:Nat×Nat}(hr:HR G B h w)(hlt:a.block<B)(hc:w.heap[a.block]?=some (.cells c T fr))(hx:VL G xs cs)
  (hcs:∀ (j:Nat) (u:Value),cs[j]?=some u->c[j+a.off]?=some u) (hsz:xs.length+a.off<=c.size):
  HR (G++[[⟨a.block,0,xs.length,c.size,a.off⟩]]) B (h++[Blk.lay xs]) w:=by
 refine hr.ztC rfl hlt (.inr ⟨_,rfl,rfl,rfl,c,T,fr,hc,rfl,hsz,fun p hp=>?_⟩)
 have hp':p<xs.length:=hp
 obtain⟨u,e1,e2⟩:=hx.get (List.getElem?_eq_getElem hp')
 exact⟨_,u,List.getElem?_eq_getElem hp',hcs p u e1,e2.le (Gh.zb4 _ _)⟩
end
def zg1{α:Type}(f:α->zf->Option (List AV×zf)):List α->zf->Option (List AV×zf)
 | [],h=>some ([],h)
 |d::l,h=>match f d h with
  |some (xs,h1)=>match zg1 f l h1 with
   |some (ys,h2)=>some (xs++ys,h2)
   |none=>none
  |none=>none
def flush(P:Program):List Field->Nat->Nat->Bool
 | [],o,n=>Nat.beq o n
 |f::l,o,n=>Nat.beq f.offset o&&flush P l (o+P.cellsOf f.type) n
def zqV{H:Type}(P:Program):Nat->TypeId->DataW H->zf->Option (List AV×zf)
 |0,_,_,_=>none
 |n+1,t,d,h=>match P.underlying t,d with
  |some .bool,.lit (.bool b)=>some ([.bool b],h)
  |some (.int _),.lit (.int k m)=>some ([.int k m],h)
  |some .string,.lit (.string l)=>some ([.str l],h)
  |some (.pointer _),.nil=>some ([.zfi],h)
  |some (.pointer e),.ptr d=>match zqV P n e d h with
   |some (x::xs,h')=>some ([.ptr h'.length 0 0 (xs.length+1)],h'++[Blk.lay (x::xs)])
   |_=>none
  |some (.slice _),.nil=>some ([.qp],h)
  |some (.slice e),.slice (d::l) _=>match zg1 (zqV P n e) (d::l) h with
   |some (x::xs,h')=>some ([.sl h'.length 0 (l.length+1) (P.cellsOf e) 0 false],h'++[Blk.lay (x::xs)])
   |_=>none
  |some (.slice e),.slice [] _=>if Nat.blt 0 (P.cellsOf e)=true then some ([.sl h.length 0 0 (P.cellsOf e) 0 false],h++[Blk.lay []]) else none
  |some (.struct fs),.agg ds=>if flush P fs.toList 0 (P.cellsOf t)=true/\ds.length=fs.size then zg1 (fun p=>zqV P n p.1.type p.2) (fs.toList.zip ds) h else none
  |some (.array m e),.agg ds=>if m*P.cellsOf e=P.cellsOf t/\ds.length=m then zg1 (zqV P n e) ds h else none
  |some (.interface _),.nil=>some ([.zcr],h)
  |some (.interface _),.iface _ _=>some ([.opq],h)
  |_,_=>none
section
variable {P:Program} {B:Nat} {w:World}
theorem mapM_some{α β:Type}{f:α->Option β}:∀ {l:List α} {r:List β},l.mapM f=some r->r.length=l.length/\∀ (i:Nat) (a:α),l[i]?=some a->∃ b,r[i]?=some b/\f a=some b
 | [],r,h=>by simp at h;subst h;simp
 |x::l,r,h=>by
  simp only[List.mapM_cons,Option.bind_eq_bind,Option.bind_eq_some_iff,Option.pure_def,Option.some.injEq] at h
  obtain⟨b,hb,r',hr',rfl⟩:=h
  obtain⟨h1,h2⟩:=mapM_some hr'
  refine⟨by simp [h1],fun i a ha=>?_⟩
  cases i with
  |zero=>simp at ha;subst ha;exact⟨b,rfl,hb⟩
  |succ i=>simpa using h2 i a (by simpa using ha)
theorem zaX{base n:Nat}{a:Addr}{cs:List Value}(h:w.cells? base a n=some cs):cs.length=n/\∀ (j:Nat) (u:Value),cs[j]?=some u->w.cell? (a.add j)=some u:=by
 unfold World.cells? at h
 split at h
 ·obtain⟨h1,h2⟩:=mapM_some h
  rw[List.length_range] at h1
  refine⟨h1,fun j u hu=>?_⟩
  have hj:j<n:=by rw[<- h1];exact(List.getElem?_eq_some_iff.1 hu).1
  obtain⟨b,e1,e2⟩:=h2 j j (by simp [hj])
  rw[hu] at e1;cases e1
  exact e2
 ·cases h
theorem zgQ{a:Addr}{u:Value}(h:w.cell? a=some u):∃ c T fr,w.heap[a.block]?=some (.cells c T fr)/\a.spot=none/\c[a.off]?=some u:=by
 unfold World.cell? at h
 split at h
 ·rename_i c T fr hb
  split at h
  ·cases h
  ·rename_i hs
   exact⟨c,T,fr,hb,by cases hsp:a.spot<;>simp_all,h⟩
 ·cases h
theorem kA(a:Addr)(j:Nat):(a.add j).block=a.block/\(a.add j).off=a.off+j:=by
 unfold Addr.add
 split
 ·subst_vars;exact⟨rfl,rfl⟩
 ·exact⟨rfl,rfl⟩
theorem xT{base n:Nat}{a:Addr}{cs:List Value}(h:w.cells? base a n=some cs)(hn:0<n):∃ c T fr,w.heap[a.block]?=some (.cells c T fr)/\a.spot=none/\(∀ (j:Nat) (u:Value),cs[j]?=some u->c[j+a.off]?=some u)/\n+a.off<=c.size:=by
 obtain⟨h1,h2⟩:=zaX h
 have h0:=h2 0 _ (List.getElem?_eq_getElem (by omega))
 obtain⟨c,T,fr,e1,e2,e3⟩:=zgQ h0
 have ha0:a.add 0=a:=by simp [Addr.add]
 rw[ha0] at e1 e2
 have hall:∀ (j:Nat) (u:Value),cs[j]?=some u->c[j+a.off]?=some u:=by
  intro j u hu
  obtain⟨c',T',fr',f1,_,f3⟩:=zgQ (h2 j u hu)
  rw[(kA a j).1,e1] at f1
  cases f1
  rw[(kA a j).2,Nat.add_comm] at f3
  exact f3
 refine⟨c,T,fr,e1,e2,hall,?_⟩
 have hl:=hall (n-1) _ (List.getElem?_eq_getElem (by omega))
 have:=(Array.getElem?_eq_some_iff.1 hl).1
 omega
def Gh.ext(G G':Gh):Prop:=∃ E,G'=G++E
theorem Gh.qE(G:Gh):G.ext G:=⟨[],by simp⟩
theorem Gh.ext.trans{a b c:Gh}(h:a.ext b)(k:b.ext c):a.ext c:=by
 obtain⟨E,rfl⟩:=h
 obtain⟨F,rfl⟩:=k
 exact⟨E++F,by rw[List.append_assoc]⟩
theorem Gh.ext.le{a b:Gh}(h:a.ext b):a.le b:=by
 obtain⟨E,rfl⟩:=h
 intro loc v r hat
 unfold Gh.at at *
 cases hg:a[loc]? with
 |none=>rw[hg] at hat;cases hat
 |some vs=>rw[hg] at hat;rw[List.getElem?_append_left (List.getElem?_eq_some_iff.1 hg).1,hg];exact hat
theorem Gh.ext.get{a b:Gh}(h:a.ext b){loc:Nat}{vs:List Ver}(hg:a[loc]?=some vs):b[loc]?=some vs:=by
 obtain⟨E,rfl⟩:=h
 rw[List.getElem?_append_left (List.getElem?_eq_some_iff.1 hg).1];exact hg
theorem Gh.zcj(G:Gh)(vs:List Ver):G.ext (G++[vs]):=⟨[vs],rfl⟩
theorem zax{α:Type}{f:α->zf->Option (List AV×zf)}{Q:α->List Value->Prop}
  (hf:∀ d h xs h' G,HR G B h w->f d h=some (xs,h')->∀ cs,Q d cs->∃ G',HR G' B h' w/\G.ext G'/\VL G' xs cs):
  ∀ {ds:List α} {h h':zf} {xs:List AV} {G:Gh} {css:List (List Value)},HR G B h w->zg1 f ds h=some (xs,h')->css.length=ds.length->(∀ (i:Nat) (d:α) (cs:List Value),ds[i]?=some d->css[i]?=some cs->Q d cs) ->
   ∃ G',HR G' B h' w/\G.ext G'/\VL G' xs css.flatten
 | [],h,h',xs,G,css,hr,hl,hlen,_=>by
  cases hl
  have:css=[]:=List.eq_nil_of_length_eq_zero hlen
  subst this
  exact⟨G,hr,Gh.qE _,.nil⟩
 |d::ds,h,h',xs,G,css,hr,hl,hlen,hq=>by
  cases css with
  |nil=>simp at hlen
  |cons cs css=>
   unfold zg1 at hl
   split at hl
   ·rename_i ys h1 h2
    split at hl
    ·rename_i zs h3 h4
     cases hl
     obtain⟨G1,r1,l1,v1⟩:=hf d h ys h1 G hr h2 cs (hq 0 d cs rfl rfl)
     obtain⟨G2,r2,l2,v2⟩:=zax hf (css:=css) r1 h4 (by simpa using hlen) (fun i d' cs' e1 e2=>hq (i+1) d' cs' (by simpa using e1) (by simpa using e2))
     exact⟨G2,r2,l1.trans l2,(v1.le l2.le).append v2⟩
    ·cases hl
   ·cases hl
theorem zj6{c:Array Value}{sz:Nat}:∀ {css:List (List Value)} {o:Nat},(∀ (i:Nat) (cs:List Value),css[i]?=some cs->cs.length=sz/\∀ (k:Nat) (u:Value),cs[k]?=some u->c[k+(o+i*sz)]?=some u) ->
  css.flatten.length=css.length*sz/\∀ (j:Nat) (u:Value),css.flatten[j]?=some u->c[j+o]?=some u
 | [],o,_=>by simp
 |cs::css,o,h=>by
  obtain⟨h1,h2⟩:=h 0 cs rfl
  obtain⟨h3,h4⟩:=zj6 (css:=css) (o:=o+sz) (c:=c) (sz:=sz) (fun i cs' hi=>by
   obtain⟨q1,q2⟩:=h (i+1) cs' (by simpa using hi)
   refine⟨q1,fun k u hu=>?_⟩
   have:=q2 k u hu
   rwa [show o+(i+1)*sz=o+sz+i*sz from by rw[Nat.add_mul];omega] at this)
  refine⟨by simp only[List.flatten_cons,List.length_append,List.length_cons,h1,h3,Nat.add_mul];omega,fun j u hu=>?_⟩
  rw[List.flatten_cons,List.getElem?_append] at hu
  split at hu
  ·have:=h2 j u hu
   simpa using this
  ·rename_i hge
   have:=h4 _ u hu
   rwa [h1,show j-sz+(o+sz)=j+o from by omega] at this
theorem zed{cs:List Value}:∀ {l:List Field} {o n:Nat},flush P l o n=true->cs.length=n->o<=n->(l.map fun f=>(cs.drop f.offset).take (P.cellsOf f.type)).flatten=cs.drop o
 | [],o,n,h,hl,ho=>by
  have:=Nat.eq_of_beq_eq_true h
  simp;omega
 |f::l,o,n,h,hl,ho=>by
  simp only[flush,Bool.and_eq_true] at h
  have he:=Nat.eq_of_beq_eq_true h.1
  by_cases hle:o+P.cellsOf f.type<=n
  ·have ih:=zed (cs:=cs) h.2 hl hle
   simp only[List.map_cons,List.flatten_cons]
   rw[ih,he,<- List.drop_drop]
   exact List.take_append_drop _ _
  ·exfalso
   have:∀ (l:List Field) (o:Nat),flush P l o n=true->o<=n:=by
    intro l
    induction l with
    |nil=>intro o h;have:=Nat.eq_of_beq_eq_true h;omega
    |cons f l ih=>intro o h;simp only[flush,Bool.and_eq_true] at h;have:=ih _ h.2;omega
   exact hle (this l _ h.2)
theorem trod_array{H:Type}{enc:TypeId×Value->H}{base:Nat}{sp:Nat->Bool}{held:Bool}{fuel k:Nat}{t e:TypeId}{cs:List Value}{x:DataW H×List MemPlace}(ht:P.underlying t=some (.array k e))(h:DataW.trod enc P w base sp held fuel t cs=some x):
  ∃ (xs:List (DataW H×List MemPlace)) (n:Nat),fuel=n+1/\x.1=.agg (xs.map (·.1))/\cs.length=P.cellsOf t/\xs.length=k/\∀ i,i<k->DataW.trod enc P w base sp held n e ((cs.drop (i*P.cellsOf e)).take (P.cellsOf e))=xs[i]?:=by
 cases fuel with
 |zero=>simp [DataW.trod] at h
 |succ n=>
  unfold DataW.trod at h
  rw[ht] at h
  simp only at h
  split at h
  ·rename_i hlen
   obtain⟨xs,h1,h2⟩:=Option.map_eq_some_iff.1 h
   obtain⟨h3,h4⟩:=mapM_some h1
   rw[List.length_range] at h3
   subst h2
   refine⟨xs,n,rfl,rfl,hlen,h3,fun i hi=>?_⟩
   obtain⟨b,e1,e2⟩:=h4 i i (by simp [hi])
   rw[e2,e1]
  ·cases h
theorem zgM{H:Type}{enc:TypeId×Value->H}{base:Nat}{sp:Nat->Bool}{held:Bool}{fuel:Nat}{t:TypeId}{ms:Array (String×TypeId)}{cs:List Value}{p:List MemPlace}(ht:P.underlying t=some (.interface ms))(h:DataW.trod enc P w base sp held fuel t cs=some (.nil,p)):cs=[.nilIface]:=by
 cases fuel with
 |zero=>simp [DataW.trod] at h
 |succ n=>
  unfold DataW.trod at h
  rw[ht] at h
  split at h<;>first|(cases h;done)|skip
  all_goals first
   |rfl
   |(exfalso;simp_all;done)
   |(exfalso;split at h<;>simp_all;done)
theorem zgm{H:Type}{enc:TypeId×Value->H}{base:Nat}{sp:Nat->Bool}{held:Bool}{fuel:Nat}{t:TypeId}{ms:Array (String×TypeId)}{cs:List Value}{p:List MemPlace}{nm:String}{d:DataW H}(ht:P.underlying t=some (.interface ms))(h:DataW.trod enc P w base sp held fuel t cs=some (.iface nm d,p)):∃ u v,cs=[.iface u v]:=by
 cases fuel with
 |zero=>simp [DataW.trod] at h
 |succ n=>
  match cs with
  | []=>simp [DataW.trod,ht] at h
  |_::_::_=>simp [DataW.trod,ht] at h
  | [c]=>
   cases c<;>simp [DataW.trod,ht] at h
   exact⟨_,_,rfl⟩
theorem zgO{cs:List Value}{sz:Nat}:∀ {k o:Nat},cs.length=o+k*sz->((List.range k).map fun i=>(cs.drop (o+i*sz)).take sz).flatten=cs.drop o
 |0,o,h=>by simp;omega
 |k+1,o,h=>by
  have ih:=zgO (cs:=cs) (sz:=sz) (k:=k) (o:=o+sz) (by rw[h,Nat.add_mul];omega)
  rw[List.range_succ_eq_map,List.map_cons,List.flatten_cons,List.map_map]
  have e:((fun i=>(cs.drop (o+i*sz)).take sz) ∘ Nat.succ)=fun i=>(cs.drop (o+sz+i*sz)).take sz:=by
   funext i
   simp only[Function.comp]
   rw[show o+i.succ*sz=o+sz+i*sz from by rw[Nat.succ_eq_add_one,Nat.add_mul];omega]
  rw[e,ih,Nat.zero_mul,Nat.add_zero,<- List.drop_drop]
  exact List.take_append_drop _ _
theorem ziY{H:Type}{enc:TypeId×Value->H}{base:Nat}{held:Bool}(hB:B=w.heap.size)(hz:∃ (b0:Nat) (c:Array Value) (T:TypeId) (fr:Nat×Nat),w.heap[b0]?=some (.cells c T fr)):∀ (m:Nat) (t:TypeId) (d:DataW H) (h:zf) (xs:List AV) (h':zf) (G:Gh),HR G B h w->zqV P m t d h=some (xs,h') ->
  ∀ cs,(∃ n p,DataW.trod enc P w base (fun _=>true) held n t cs=some (d,p))->∃ G',HR G' B h' w/\G.ext G'/\VL G' xs cs
 |0,t,d,h,xs,h',G,hr,hl,cs,_=>by simp [zqV] at hl
 |m+1,t,d,h,xs,h',G,hr,hl,cs,⟨n,p,ht⟩=>by
  have ih:=fun t d h xs h' G=>ziY (enc:=enc) (base:=base) (held:=held) hB hz m t d h xs h' G
  unfold zqV at hl
  split at hl
  ·rename_i b hu
   cases hl
   obtain⟨b',rfl,e⟩:=DataW.trod_bool hu ht
   cases e
   exact⟨G,hr,Gh.qE _,.cons (.bool _) .nil⟩
  ·rename_i k0 k z hu
   cases hl
   obtain⟨b',rfl,e,_⟩:=DataW.trod_int hu ht
   cases e
   exact⟨G,hr,Gh.qE _,.cons (.int _ _) .nil⟩
  ·rename_i l hu
   cases hl
   obtain⟨b',rfl,e,_⟩:=DataW.trod_string hu ht
   cases e
   exact⟨G,hr,Gh.qE _,.cons (.str b'.data.toList) .nil⟩
  ·rename_i e hu
   cases hl
   rcases DataW.trod_pointer hu ht with⟨rfl,_⟩|⟨a,cs',y,n',rfl,rfl,he,_⟩
   ·exact⟨G,hr,Gh.qE _,.cons .zfi .nil⟩
   ·cases he
  ·rename_i e d' hu
   split at hl
   ·rename_i x xs h1 hl1
    cases hl
    rcases DataW.trod_pointer hu ht with⟨rfl,he⟩|⟨a,cs',y,n',rfl,rfl,he,hc,hy⟩
    ·cases he
    ·cases he
     obtain⟨G1,r1,l1,v1⟩:=ih e _ h _ _ G hr hl1 cs' ⟨n',_,hy⟩
     have hlen:=v1.length
     have hcl:=(zaX hc).1
     simp only[List.length_cons] at hlen
     obtain⟨c,T,fr,q1,q2,q3,q4⟩:=xT hc (by omega)
     have hlt:a.block<B:=by rw[hB];exact(Array.getElem?_eq_some_iff.1 q1).1
     have hr2:=r1.zes hlt q1 v1 q3 (by simp only[List.length_cons];omega)
     refine⟨_,hr2,l1.trans (Gh.zcj _ _),.cons ?_ .nil⟩
     have hV:=V.ptr (G:=G1++[[⟨a.block,0,(x::xs).length,c.size,a.off⟩]]) (loc:=h1.length) (off:=0) (ver:=0) (lim:=xs.length+1) (r:=⟨a.block,0,(x::xs).length,c.size,a.off⟩) (by rw[<- r1.len,xR];rfl) (Nat.le_refl _) (Nat.le_refl _)
     obtain⟨ab,ao,as1⟩:=a
     simp only at q2
     subst q2
     simpa using hV
   ·cases hl
  ·rename_i e hu
   cases hl
   rcases DataW.trod_slice hu ht with⟨rfl,_⟩|⟨a,len,cap,el,rs,n',rfl,rfl,he,_⟩
   ·exact⟨G,hr,Gh.qE _,.cons .qp .nil⟩
   ·cases he
  ·rename_i e d0 l sp hu
   split at hl
   ·rename_i x xs h1 hl1
    cases hl
    rcases DataW.trod_slice hu ht with⟨rfl,he⟩|⟨a,len,cap,el,rs,n',rfl,rfl,he,hba,hlc,hcm,hel,hee,hsp,_⟩
    ·cases he
    ·simp only[Prod.mk.injEq,DataW.slice.injEq] at he
     obtain⟨⟨he1,he2⟩,_⟩:=he
     have hln:len=l.length+1:=by rw[<- hel,<- show(el.map (·.1)).length=el.length from List.length_map _,<- he1];rfl
     obtain⟨hrl,hrr⟩:=hsp rfl
     generalize hsz:P.cellsOf e=sz at *
     have hcell:∀ i,i<cap->∃ cs',w.cells? base (a.add (i*sz)) sz=some cs':=by
      intro i hi
      by_cases hil:i<len
      ·have h0:=hee i hil
       rw[List.getElem?_eq_getElem (by omega)] at h0
       obtain⟨cs',e1,_⟩:=Option.bind_eq_some_iff.1 h0
       exact⟨cs',e1⟩
      ·have h0:=hrr (i-len) (by omega)
       rw[List.getElem?_eq_getElem (by omega),show len+(i-len)=i from by omega] at h0
       obtain⟨cs',e1,_⟩:=Option.bind_eq_some_iff.1 h0
       exact⟨cs',e1⟩
     obtain⟨G1,r1,l1,v1⟩:=zax (Q:=fun(d:DataW H) cs=>∃ n q,DataW.trod enc P w base (fun _=>true) held n e cs=some (d,q)) (fun d h xs h' G hr hl cs hq=>ih e d h xs h' G hr hl cs hq) hr hl1
      (css:=(List.range len).map fun i=>(w.cells? base (a.add (i*sz)) sz).getD []) (by simp [hln]) (fun i d cs' e1 e2=>by
       rw[List.getElem?_map,Option.map_eq_some_iff] at e2
       obtain⟨j,e3,rfl⟩:=e2
       have hik:i<len:=by
        have:=(List.getElem?_eq_some_iff.1 e1).1
        simp only[List.length_cons] at this
        omega
       rw[List.getElem?_range hik] at e3
       cases e3
       rw[he1,List.getElem?_map,Option.map_eq_some_iff] at e1
       obtain⟨y,e6,e7⟩:=e1
       have h0:=hee i hik
       rw[e6] at h0
       obtain⟨cs2,f1,f2⟩:=Option.bind_eq_some_iff.1 h0
       rw[f1]
       exact⟨n',y.2,by rw[<- e7];exact f2⟩)
     have hvl:=v1.length
     have hpos:0<sz:=by
      rcases Nat.eq_zero_or_pos sz with h0|h0
      ·exfalso
       have:((List.range len).map fun i=>(w.cells? base (a.add (i*sz)) sz).getD []).flatten=[]:=by
        rw[List.flatten_eq_nil_iff]
        intro q hq
        obtain⟨i,hi,rfl⟩:=List.mem_map.1 hq
        obtain⟨cs',e1⟩:=hcell i (by have:=List.mem_range.1 hi;omega)
        rw[e1]
        have:=(zaX e1).1
        exact List.eq_nil_of_length_eq_zero (by show cs'.length=0;omega)
       rw[this] at hvl
       simp at hvl
      ·exact h0
     obtain⟨c0,ec0⟩:=hcell 0 (by omega)
     obtain⟨c,T,fr,q1,q2,_,_⟩:=xT ec0 hpos
     rw[(kA a _).1] at q1
     have ha0:a.add (0*sz)=a:=by simp [Addr.add]
     rw[ha0] at q2
     have hrow:∀ i,i<cap->∀ cs',w.cells? base (a.add (i*sz)) sz=some cs'->cs'.length=sz/\(∀ (k:Nat) (u:Value),cs'[k]?=some u->c[k+(a.off+i*sz)]?=some u)/\sz+(a.off+i*sz)<=c.size:=by
      intro i hi cs' ec
      obtain⟨c2,T2,fr2,g1,_,g3,g4⟩:=xT ec hpos
      rw[(kA a _).1,q1] at g1
      cases g1
      rw[(kA a _).2] at g3 g4
      exact⟨(zaX ec).1,g3,g4⟩
     obtain⟨fl1,fl2⟩:=zj6 (c:=c) (sz:=sz) (o:=a.off) (css:=(List.range len).map fun i=>(w.cells? base (a.add (i*sz)) sz).getD []) (fun i cs' e2=>by
      rw[List.getElem?_map,Option.map_eq_some_iff] at e2
      obtain⟨j,e3,rfl⟩:=e2
      have hik:i<len:=by have:=(List.getElem?_eq_some_iff.1 e3).1;simpa using this
      rw[List.getElem?_range hik] at e3
      cases e3
      obtain⟨cs',ec⟩:=hcell i (by omega)
      rw[ec]
      obtain⟨k1,k2,_⟩:=hrow i (by omega) cs' ec
      exact⟨k1,k2⟩)
     rw[List.length_map,List.length_range] at fl1
     obtain⟨csl,ecl⟩:=hcell (cap-1) (by omega)
     obtain⟨_,_,hend⟩:=hrow (cap-1) (by omega) csl ecl
     have hcapsz:cap*sz=sz+(cap-1)*sz:=by
      obtain⟨k,rfl⟩:∃ k,cap=k+1:=⟨cap-1,by omega⟩
      rw[Nat.add_mul];simp;omega
     have hlensz:len*sz<=cap*sz:=Nat.mul_le_mul_right _ hlc
     have hlt:a.block<B:=by rw[hB];exact(Array.getElem?_eq_some_iff.1 q1).1
     have hxl:(x::xs).length=len*sz:=by rw[<- hvl,fl1]
     have hr2:=r1.zes hlt q1 v1 fl2 (by omega)
     refine⟨_,hr2,l1.trans (Gh.zcj _ _),.cons ?_ .nil⟩
     have hV:=V.sl (G:=G1++[[⟨a.block,0,(x::xs).length,c.size,a.off⟩]]) (loc:=h1.length) (off:=0) (len:=len) (sz:=sz) (ver:=0) (cap:=cap) (clip:=false) (r:=⟨a.block,0,(x::xs).length,c.size,a.off⟩) (by rw[<- r1.len,xR];rfl) (Nat.le_refl _) (by show 0+len*sz<=(x::xs).length;omega) hlc
      (by show 0+a.off-0+cap*sz<=c.size;omega) (fun e=>by cases e) (fun _=>by show(x::xs).length<=0+cap*sz;omega) hcm hpos
     obtain⟨ab,ao,as1⟩:=a
     simp only at q2
     subst q2
     rw[<- hln]
     simpa using hV
   ·cases hl
  ·rename_i e rs0 hu
   split at hl
   ·rename_i hpos
    cases hl
    have hpos:0<P.cellsOf e:=by simpa [Nat.blt_eq] using hpos
    rcases DataW.trod_slice hu ht with⟨rfl,he⟩|⟨a,len,cap,el,rs,n',rfl,rfl,he,hba,hlc,hcm,hel,hee,hsp,_⟩
    ·cases he
    ·simp only[Prod.mk.injEq,DataW.slice.injEq] at he
     obtain⟨⟨he1,he2⟩,_⟩:=he
     have hln:len=0:=by rw[<- hel,<- show(el.map (·.1)).length=el.length from List.length_map _,<- he1];rfl
     subst hln
     obtain⟨hrl,hrr⟩:=hsp rfl
     rcases Nat.eq_zero_or_pos cap with h0|h0
     ·subst h0
      obtain⟨b0,c,T,fr,hb0⟩:=hz
      have hr2:=hr.zes (a:=⟨b0,0,none⟩) (xs:=[]) (cs:=[]) (by show b0<B;rw[hB];exact(Array.getElem?_eq_some_iff.1 hb0).1) hb0 .nil (fun j u hu=>by simp at hu) (by simp)
      refine⟨_,hr2,Gh.zcj _ _,.cons ?_ .nil⟩
      exact V.sl0 (r:=⟨b0,0,0,c.size,0⟩) (by rw[<- hr.len,xR];rfl) (Nat.le_refl _) (Nat.le_refl _) (fun _=>Nat.le_refl _) hpos
     ·have hc:∀ i,i<cap->∃ cs',w.cells? base (a.add (i*P.cellsOf e)) (P.cellsOf e)=some cs':=by
       intro i hi
       have h0:=hrr i (by omega)
       rw[List.getElem?_eq_getElem (by omega),Nat.zero_add] at h0
       obtain⟨cs',e1,_⟩:=Option.bind_eq_some_iff.1 h0
       exact⟨cs',e1⟩
      obtain⟨c0,ec0⟩:=hc 0 h0
      obtain⟨c,T,fr,q1,q2,_,_⟩:=xT ec0 hpos
      have ha0:a.add (0*P.cellsOf e)=a:=by simp [Addr.add]
      rw[ha0] at q1 q2
      obtain⟨csl,ecl⟩:=hc (cap-1) (by omega)
      obtain⟨c2,T2,fr2,g1,_,_,g4⟩:=xT ecl hpos
      rw[(kA a _).1,q1] at g1
      cases g1
      rw[(kA a _).2] at g4
      have hcapsz:cap*P.cellsOf e=P.cellsOf e+(cap-1)*P.cellsOf e:=by
       obtain⟨k,rfl⟩:∃ k,cap=k+1:=⟨cap-1,by omega⟩
       rw[Nat.add_mul];simp;omega
      have hlt:a.block<B:=by rw[hB];exact(Array.getElem?_eq_some_iff.1 q1).1
      have hr2:=hr.zes (a:=a) (xs:=[]) (cs:=[]) hlt q1 .nil (fun j u hu=>by simp at hu) (by simp only[List.length_nil];omega)
      refine⟨_,hr2,Gh.zcj _ _,.cons ?_ .nil⟩
      have hV:=V.sl (G:=G++[[⟨a.block,0,0,c.size,a.off⟩]]) (loc:=h.length) (off:=0) (len:=0) (sz:=P.cellsOf e) (ver:=0) (cap:=cap) (clip:=false) (r:=⟨a.block,0,0,c.size,a.off⟩) (by rw[<- hr.len,xR];rfl) (Nat.le_refl _) (by simp) hlc
       (by show 0+a.off-0+cap*P.cellsOf e<=c.size;omega) (fun e=>by cases e) (fun _=>Nat.zero_le _) hcm hpos
      obtain⟨ab,ao,as1⟩:=a
      simp only at q2
      subst q2
      simpa using hV
   ·cases hl
  ·rename_i fs ds hu
   split at hl
   ·rename_i hq
    obtain⟨ys,n',rfl,he,hlen,hyl,hy⟩:=DataW.trod_struct hu ht
    cases he
    have hfl:=zed (cs:=cs) hq.1 hlen (Nat.zero_le _)
    rw[List.drop_zero] at hfl
    obtain⟨G1,r1,l1,v1⟩:=zax (Q:=fun(p:Field×DataW H) cs=>∃ n q,DataW.trod enc P w base (fun _=>true) held n p.1.type cs=some (p.2,q)) (fun d h xs h' G hr hl cs hq=>ih d.1.type d.2 h xs h' G hr hl cs hq) hr hl
     (css:=fs.toList.map fun f=>(cs.drop f.offset).take (P.cellsOf f.type)) (by simp [hyl]) (fun i d cs' e1 e2=>by
      rw[List.getElem?_map,Option.map_eq_some_iff] at e2
      obtain⟨f,e3,rfl⟩:=e2
      rw[List.getElem?_zip_eq_some] at e1
      rw[e3] at e1
      obtain⟨e4,e5⟩:=e1
      cases e4
      rw[List.getElem?_map,Option.map_eq_some_iff] at e5
      obtain⟨y,e6,e7⟩:=e5
      have:=hy i d.1 (by simpa using e3)
      rw[e6] at this
      exact⟨n',y.2,by rw[this,<- e7]⟩)
    rw[hfl] at v1
    exact⟨G1,r1,l1,v1⟩
   ·cases hl
  ·rename_i k e ds hu
   split at hl
   ·rename_i hq
    obtain⟨ys,n',rfl,he,hlen,hyl,hy⟩:=trod_array hu ht
    simp only at he
    cases he
    have hfl:=zgO (cs:=cs) (sz:=P.cellsOf e) (k:=k) (o:=0) (by rw[hlen,hq.1];omega)
    simp only[Nat.zero_add,List.drop_zero] at hfl
    obtain⟨G1,r1,l1,v1⟩:=zax (Q:=fun(d:DataW H) cs=>∃ n q,DataW.trod enc P w base (fun _=>true) held n e cs=some (d,q)) (fun d h xs h' G hr hl cs hq=>ih e d h xs h' G hr hl cs hq) hr hl
     (css:=(List.range k).map fun i=>(cs.drop (i*P.cellsOf e)).take (P.cellsOf e)) (by simp [hyl]) (fun i d cs' e1 e2=>by
      rw[List.getElem?_map,Option.map_eq_some_iff] at e1 e2
      obtain⟨y,e6,e7⟩:=e1
      obtain⟨j,e3,rfl⟩:=e2
      have hik:i<k:=by rw[<- hyl];exact(List.getElem?_eq_some_iff.1 e6).1
      rw[List.getElem?_range hik] at e3
      cases e3
      have:=hy i hik
      rw[e6] at this
      exact⟨n',y.2,by rw[this,<- e7]⟩)
    rw[hfl] at v1
    exact⟨G1,r1,l1,v1⟩
   ·cases hl
  ·rename_i ms hu
   cases hl
   have:=zgM hu ht
   subst this
   exact⟨G,hr,Gh.qE _,.cons .zcr .nil⟩
  ·rename_i ms nm d hu
   cases hl
   obtain⟨u,v,rfl⟩:=zgm hu ht
   exact⟨G,hr,Gh.qE _,.cons (.opq u v) .nil⟩
  ·cases hl
theorem HR.zt0{G:Gh}{h:zf}{loc:Nat}{blk blk':Blk}{vs:List Ver}(hr:HR G B h w)(hl:h[loc]?=some blk)(ho:blk.own=false)(ho':blk'.own=false)(hg:G[loc]?=some vs)(hB:zmG G w blk' vs):HR G B (h.set loc blk') w:=by
 have hlt:=Arr.lt hl
 refine⟨by rw[Arr.length_set];exact hr.len,fun l b vs' h1 h2=>?_,hr.lt,fun l v r b hat h1=>?_,hr.apart,hr.base⟩
 ·rw[Arr.zW] at h1
  split at h1
  ·rename_i e
   subst e
   cases h1
   rw[hg] at h2;cases h2
   exact hB
  ·exact hr.blk l b vs' h1 h2
 ·rw[Arr.zW] at h1
  split at h1
  ·rename_i e
   subst e
   cases h1
   have:=hr.own _ _ _ _ hat hl
   rw[ho] at this
   rw[ho']
   exact this
  ·exact hr.own _ _ _ _ hat h1
end
def zee(P:Program)(m:Nat):List (String×DataW Unit)->zf->Option zf
 | [],h=>some h
 |(n,d)::r,h=>match P.globalNamed n with
  |some g=>match P.globals[g]? with
   |some v=>match zqV P m v.type d h with
    |some (xs,h1)=>match h1[g]? with
     |some .dead=>if Nat.beq xs.length (P.cellsOf v.type)=true then zee P m r (h1.set g (.lay xs)) else none
     |_=>none
    |none=>zee P m r h
   |none=>none
  |none=>none
def zd1(P:Program):Gh:=(List.range P.globals.size).map fun g=>match P.globals[g]? with
 |some v=>[⟨g,0,P.cellsOf v.type,P.cellsOf v.type,0⟩]
 |none=>[]
section
variable {P:Program} {B:Nat} {w:World}
theorem zbp(hB:B=w.heap.size)(hz:∃ (b0:Nat) (c:Array Value) (T:TypeId) (fr:Nat×Nat),w.heap[b0]?=some (.cells c T fr))(m:Nat):∀ {l:List (String×DataW Unit)} {ps:List MemPlace} {h h':zf} {G:Gh},DataW.LaidVars P w l ps->zee P m l h=some h'->HR G B h w->(zd1 P).ext G->∃ G',HR G' B h' w/\G.ext G'
 | [],ps,h,h',G,hp,hl,hr,hx=>by cases hl;exact⟨G,hr,Gh.qE _⟩
 |(n,d)::l,ps,h,h',G,hp,hl,hr,hx=>by
  obtain⟨g,t,cs,fuel,p,q,e1,e2,e3,e4,e5,_⟩:=hp
  unfold zee at hl
  rw[e1] at hl
  simp only at hl
  obtain⟨v,ev,rfl⟩:=Option.map_eq_some_iff.1 e2
  rw[ev] at hl
  simp only at hl
  split at hl
  ·rename_i xs h1 hd
   split at hl
   ·rename_i hdead
    split at hl
    ·rename_i hlen
     have hlen:=Nat.eq_of_beq_eq_true hlen
     obtain⟨G1,r1,x1,v1⟩:=ziY hB hz m v.type d h xs h1 G hr hd cs.toList ⟨fuel,p,e4⟩
     have hgl:g<P.globals.size:=(Array.getElem?_eq_some_iff.1 ev).1
     have hgv:(zd1 P)[g]?=some [⟨g,0,P.cellsOf v.type,P.cellsOf v.type,0⟩]:=by
      unfold zd1
      rw[List.getElem?_map,List.getElem?_range hgl]
      simp only[Option.map_some,ev]
     have hgG:=(hx.trans x1).get hgv
     have hcl:=v1.length
     rw[Array.length_toList] at hcl
     obtain⟨c,T,fr,hw,hc⟩:∃ c T fr,w.heap[g]?=some (.cells c T fr)/\c=cs:=by
      unfold World.var? at e3
      rw[e1] at e3
      simp only[Option.bind_some] at e3
      split at e3
      ·rename_i c T fr hb;cases e3;exact⟨_,T,fr,hb,rfl⟩
      ·cases e3
     subst hc
     have hr2:=r1.zt0 (blk':=.lay xs) hdead rfl rfl hgG (.inr ⟨_,rfl,rfl,hlen.symm,c,T,fr,hw,by show c.size=P.cellsOf v.type;omega,by show P.cellsOf v.type+0<=P.cellsOf v.type;omega,fun p' hp'=>by
      have hp2:p'<xs.length:=by rw[hlen];exact hp'
      obtain⟨u,f1,f2⟩:=v1.get (List.getElem?_eq_getElem hp2)
      exact⟨_,u,List.getElem?_eq_getElem hp2,by rw[<- Array.getElem?_toList];exact f1,f2⟩⟩)
     obtain⟨G2,r2,x2⟩:=zbp hB hz m e5 hl hr2 (hx.trans x1)
     exact⟨G2,r2,x1.trans x2⟩
    ·cases hl
   ·cases hl
  ·exact zbp hB hz m e5 hl hr hx
theorem zo3{g:Nat}{vs:List Ver}(h:(zd1 P)[g]?=some vs):g<P.globals.size/\∃ v,P.globals[g]?=some v/\vs=[⟨g,0,P.cellsOf v.type,P.cellsOf v.type,0⟩]:=by
 have hg:g<P.globals.size:=by have:=(List.getElem?_eq_some_iff.1 h).1;simpa [zd1] using this
 have hv:P.globals[g]?=some P.globals[g]:=Array.getElem?_eq_getElem hg
 unfold zd1 at h
 rw[List.getElem?_map,List.getElem?_range hg] at h
 simp only[Option.map_some,hv,Option.some.injEq] at h
 exact⟨hg,_,hv,h.symm⟩
theorem zin{g v:Nat}{r:Ver}(h:(zd1 P).at g v=some r):g<P.globals.size/\r.b=g:=by
 unfold Gh.at at h
 cases hg:(zd1 P)[g]? with
 |none=>rw[hg] at h;cases h
 |some vs=>
  rw[hg] at h
  obtain⟨h1,x,_,rfl⟩:=zo3 hg
  refine⟨h1,?_⟩
  cases v with
  |zero=>simp at h;rw[<- h]
  |succ v=>simp at h
theorem zl6(hn:P.globals.size<=w.heap.size):HR (zd1 P) w.heap.size (Arr.of (List.replicate P.globals.size .dead)) w:=by
 refine⟨by rw[Arr.znA];simp [zd1],fun loc b vs hb hg=>?_,fun loc v r hat=>?_,fun loc v r b hat hb=>?_,fun l1 l2 v1 v2 r1 r2 h1 _ hB _=>?_,Nat.le_refl _⟩
 ·rw[Arr.znm,List.getElem?_replicate] at hb
  split at hb
  ·cases hb;trivial
  ·cases hb
 ·have:=zin hat;omega
 ·rw[Arr.znm,List.getElem?_replicate] at hb
  have:=zin hat
  split at hb
  ·cases hb
   exact Iff.intro (fun e=>by cases e) (fun e=>by omega)
  ·cases hb
 ·have:=zin h1;omega
theorem zg0:∀ {laid:List (String×DataW Unit)} {ps:List MemPlace},DataW.LaidVars P w laid ps->laid.isEmpty=false->∃ (b0:Nat) (c:Array Value) (T:TypeId) (fr:Nat×Nat),w.heap[b0]?=some (.cells c T fr)
 | [],_,_,he=>by cases he
 |(n,d)::l,ps,hp,_=>by
  obtain⟨g,t,cs,fuel,p,q,e1,e2,e3,e4,e5,_⟩:=hp
  unfold World.var? at e3
  rw[e1] at e3
  simp only[Option.bind_some] at e3
  split at e3
  ·rename_i c T fr hb;exact⟨g,_,T,fr,hb⟩
  ·cases e3
end
structure zqE(W W':World):Prop where
 os:W'.os=W.os
 output:W'.output=W.output
 size:W.heap.size<=W'.heap.size
 low:∀ b,b<W.heap.size->W'.heap[b]?=W.heap[b]?
theorem zqE.kept{W W':World}(h:zqE W W')(may:MemPlace->Prop):W.keptBut W' may:=by
 refine⟨h.os,h.output,fun i hi=>?_⟩
 rw[h.low i hi]
 cases W.heap[i]? with
 |none=>rfl
 |some o=>cases o<;>first|exact⟨rfl,rfl,rfl,fun _ _=>rfl⟩|exact .inr ⟨rfl,rfl⟩|rfl
theorem zqE.same{W W':World}(h:zqE W W')(p:MemPlace)(hp:p.block<W.heap.size):W.sameAt W' p:=by
 cases p with
 |cell b off=>show W'.cell? _=W.cell? _;unfold World.cell?;rw[h.low b hp]
 |map b=>exact h.low b hp
theorem zm4{G:Gh}{B:Nat}{W W':World}{v:AV}{h':zf}{e:Ending}(hB:B=W.heap.size)(hr:∀ loc v r,G.at loc v=some r->r.b<B)(hc:zo5 G B W (.ret v h') e W'):zqE W W'/\∃ G' u,V G' v u/\e=.returned u:=by
 obtain⟨G',hS,u,hv,rfl⟩:=hc
 exact⟨⟨hS.fr.os,hS.fr.output,hS.fr.size,fun b hb=>hS.fr.low b hb fun loc v r hat hBr e=>by have:=hr _ _ _ hat;omega⟩,G',u,hv,rfl⟩
section
variable {H:Type} {enc:TypeId×Value->H} {P:Program}
theorem ze3{W W':World}(hg:zqE W W'){base:Nat}{sp:Nat->Bool}{held:Bool}:∀ {ts:List TypeId} {vs:List Value} {ds:List (DataW H)} {ps:List MemPlace},
  DataW.TrodAll enc P W base sp held ts vs ds ps->(∀ p ∈ ps,p.block<W.heap.size)->DataW.TrodAll enc P W' base sp held ts vs ds ps
 | [],[],[],ps,h,_=>h
 |t::ts,v::vs,d::ds,ps,h,hp=>by
  obtain⟨p,q,⟨n,h1⟩,h2,rfl⟩:=h
  exact⟨p,q,⟨n,DataW.trod_carry n _ _ _ h1 fun x hx=>hg.same x (hp x (List.mem_append_left _ hx))⟩,ze3 hg h2 (fun x hx=>hp x (List.mem_append_right _ hx)),rfl⟩
 | [],[],_::_,_,h,_=>h.elim
 | [],_::_,_,_,h,_=>h.elim
 |_::_,[],_,_,h,_=>h.elim
 |_::_,_::_,[],_,h,_=>h.elim
theorem zob{fn:Func}{s:ChangeSpec}{W W':World}{args:Array Value}{ds gs:List (DataW H)}{before:List MemPlace}{tb:TypeId}
  (hlo:laidOutB P=true) (hmr:mapsRowed P=true) (hfull:((List.range P.types.size).all fun t=>match P.underlying t with|some (.slice e)=>decide (0<P.cellsOf e)|_=>true)=true)
  (hts:(fn.params.toList.all fun t=>decide (t<P.types.size))=true) (hr:fn.resultTypes=#[tb]) (hb:P.underlying tb=some .bool) (hv:s.vars=[]) (hs:s.fn H ds={ results:=[.lit (.bool true)],args:=ds })
  (hW:DataW.Whole enc P fn.params.toList s.vars false W args.toList ds gs before) (hg:zqE W W'):
  s.post enc P fn false true false false W args (.bool true) W':=by
 have hW0:=hW
 have hlt:=hW.lt
 obtain⟨p,q,hA,hV,rfl,hz,hn⟩:=hW
 rw[hv] at hV
 obtain⟨rfl,rfl⟩:gs=[]/\q=[]:=by
  cases gs with
  |nil=>exact⟨rfl,hV⟩
  |cons=>exact hV.elim
 have hT:∀ t ∈ fn.params.toList,t<P.types.size:=fun t ht=>of_decide_eq_true (List.all_eq_true.1 hts t ht)
 have hA':DataW.TrodAll enc P W 0 (fun b=>decide (b<W.heap.size)) true fn.params.toList args.toList ds p:=
  DataW.TrodAll.respare (kids_rows hlo hmr) (slices_full_of P hfull) hT hA fun x hx=>by simpa using hlt x (List.mem_append_left _ hx)
 refine⟨ds,[],p++[],[],p,[],hW0,?_,?_,?_,hg.kept _,fun e=>by cases e⟩
 ·rw[List.append_nil,hs,hr]
  exact⟨[],[],⟨1,by simp [DataW.trod,hb,Value.cells]⟩,rfl,rfl⟩
 ·rw[List.append_nil,hs]
  exact ze3 hg hA' fun x hx=>hlt x (List.mem_append_left _ hx)
 ·rw[List.append_nil,hs,hv];rfl
end
section
variable {P:Program} {hgl:zf} {Gg:Gh} {W0 w:World}
end
def zsi(v:Bool):Option CR->Bool
 |some (.ret (.bool b) _)=>b==v
 |_=>false
theorem zmm{v:Bool}{o:Option CR}(h:zsi v o=true):∃ h',o=some (.ret (.bool v) h'):=by
 unfold zsi at h
 split at h
 ·rename_i b h';exact⟨h',by rw[eq_of_beq h]⟩
 ·cases h
section
variable {H:Type} {enc:TypeId×Value->H} {P:Program} {W:World}
theorem zmv{P:Program}{w:World}{g:Nat}{t:TypeId}{zero:Array Value}{k:IntKind}(h:w.ShapedOpen P)(hg:g<P.globals.size)
  (h0:((begin P (fun _ _=>0) default).world.heap[g]?).bind Obj.row?=some (zero,t)) (hz:zero.size=1)
  (hb:P.buildable t=true) (hc:P.cellTypes P.depth t=some [t]) (hu:P.underlying t=some (.int k)):
  ∃ m c T fr,w.heap[g]?=some (.cells c T fr)/\c.size=1/\c[0]?=some (.int k m)/\k.min<=m/\m<=k.max:=by
 obtain⟨cs,hh,hs,hr⟩:=h.1 g zero t hg h0
 obtain⟨ts,hts,_,hall⟩:=hr hb
 rw[hc] at hts
 cases hts
 have h1:0<cs.size:=by omega
 obtain⟨u,hu',hok⟩:=hall 0 cs[0] (by simp [h1])
 have:u=t:=by simpa using hu'.symm
 subst this
 unfold Cell.ok at hok
 rw[hu] at hok
 cases hv:cs[0]<;>rw[hv] at hok<;>simp at hok
 case int k' n=>
  obtain⟨rfl,h2,h3⟩:=hok
  exact⟨n,cs,_,_,hh,by omega,by rw[Array.getElem?_eq_getElem h1,hv],h2,h3⟩
theorem zkN{P:Program}{w:World}(h:w.ShapedOpen P)(h0:((((begin P (fun _ _=>0) default).world.heap[P.globals.size-1]?).bind Obj.row?).isSome&&decide (0<P.globals.size))=true):P.globals.size<=w.heap.size:=by
 simp only[Bool.and_eq_true,decide_eq_true_eq] at h0
 obtain⟨⟨zero,t⟩,h1⟩:=Option.isSome_iff_exists.1 h0.1
 obtain⟨cs,hh,_⟩:=h.1 (P.globals.size-1) zero t (by omega) h1
 have:=(Array.getElem?_eq_some_iff.1 hh).1
 omega
theorem znx{P:Program}{w:World}{laid:List (String×DataW Unit)}{m:Nat}{hgl:zf}(hn:P.globals.size<=w.heap.size)(hm:laidMet P laid w)(hne:laid.isEmpty=false)(hl:zee P m laid (Arr.of (List.replicate P.globals.size .dead))=some hgl)
  {g:Nat} {c:Array Value} {T:TypeId} {fr:Nat×Nat} {z lo hi:Int} (hd:hgl[g]?=some .dead) (hgt:((P.globals[g]?).map fun v=>P.cellsOf v.type)=some 1) (hc:w.heap[g]?=some (.cells c T fr)) (hcs:c.size=1) (hc0:c[0]?=some (.int .i64 z)) (h1:lo<=z) (h2:z<=hi):
  ∃ Gg,Laid P (hgl.set g (.lay [.iv lo hi])) Gg w.heap.size w:=by
 obtain⟨ps,hv,_⟩:=hm
 obtain⟨G,hr,hx⟩:=zbp rfl (zg0 hv hne) m hv hl (zl6 hn) (Gh.qE _)
 obtain⟨v,ev,ecells⟩:=Option.map_eq_some_iff.1 hgt
 have hgl':g<P.globals.size:=(Array.getElem?_eq_some_iff.1 ev).1
 have hgv:(zd1 P)[g]?=some [⟨g,0,P.cellsOf v.type,P.cellsOf v.type,0⟩]:=by
  unfold zd1
  rw[List.getElem?_map,List.getElem?_range hgl']
  simp only[Option.map_some,ev]
 have hr2:=hr.zt0 (blk':=.lay [.iv lo hi]) hd rfl rfl (hx.get hgv) (.inr ⟨_,rfl,rfl,by simp [ecells],c,T,fr,hc,by simp [ecells,hcs],by simp [ecells],fun p hp=>by
  have hp0:p=0:=by
   have:p<P.cellsOf v.type:=hp
   omega
  subst hp0
  exact⟨_,_,rfl,by simpa using hc0,.iv h1 h2⟩⟩)
 refine⟨G,hr2,fun loc v r hat=>hr2.lt _ _ _ hat,fun g hg=>?_⟩
 have hv:P.globals[g]?=some P.globals[g]:=Array.getElem?_eq_getElem hg
 have hgv:(zd1 P)[g]?=some [⟨g,0,P.cellsOf (P.globals[g]).type,P.cellsOf (P.globals[g]).type,0⟩]:=by
  unfold zd1
  rw[List.getElem?_map,List.getElem?_range hg]
  simp only[Option.map_some,hv]
 exact⟨_,Gh.zbP (hx.get hgv) rfl,rfl,rfl,rfl⟩
theorem zsb{P:Program}{W:World}{r:Reach}{base:Nat}{t:TypeId}{cs:Array Value}(ha:zio P t=some false)(h:Value.okWide P W r base t (.agg cs)):False:=by
 unfold Value.okWide at h
 unfold zio at ha
 cases hu:P.underlying t with
 |none=>rw[hu] at ha;cases ha
 |some d=>
  rw[hu] at ha h
  cases d<;>first|(cases ha;done)|(simp [Cell.okWide,Cell.ok,hu] at h;done)
theorem zsH{P:Program}{W:World}{r:Reach}{base:Nat}{t:TypeId}{v:Value}(ha:zio P t=some true)(h:Value.okWide P W r base t v):∃ l:List Value,v=.agg (List.toArray l):=by
 unfold zio at ha
 unfold Value.okWide at h
 cases hu:P.underlying t with
 |none=>rw[hu] at ha;cases ha
 |some d=>
  rw[hu] at ha h
  cases d<;>first|(cases ha;done)|(obtain⟨cs,rfl,_⟩:=h;exact⟨cs.toList,by simp⟩)
theorem val_one{P:Program}{W:World}{r:Reach}{base:Nat}{t:TypeId}{v x:Value}(ha:zio P t=some false)(h:Value.okWide P W r base t v)(hc:v.cells.toList=[x]):v=x:=by
 cases v with
 |agg cs=>exact(zsb ha h).elim
 |_=>simpa [Value.cells] using hc
theorem zlM{t:TypeId}{ts:List TypeId}{vs:List Value}{ds:List (DataW H)}{ps:List MemPlace}(h:DataW.TrodAll enc P W 0 (fun _=>true) true (t::ts) vs ds ps):
  ∃ v vs' d ds' p q,vs=v::vs'/\ds=d::ds'/\(∃ n,DataW.trod enc P W 0 (fun _=>true) true n t v.cells.toList=some (d,p))/\DataW.TrodAll enc P W 0 (fun _=>true) true ts vs' ds' q:=by
 match vs,ds,h with
 |v::vs',d::ds',h=>obtain⟨p,q,h1,h2,_⟩:=h;exact⟨v,vs',d,ds',p,q,rfl,rfl,h1,h2⟩
theorem zlL{vs:List Value}{ds:List (DataW H)}{ps:List MemPlace}(h:DataW.TrodAll enc P W 0 (fun _=>true) true [] vs ds ps):vs=[]/\ds=[]:=by
 match vs,ds,h with
 | [],[],_=>exact⟨rfl,rfl⟩
end
end Go.Mx
namespace Go.Sx
open Go Go.Gx Go.Mx
variable [j2]
@[reducible] def zl{α β γ:Type}(o:α ⊕ β)(f:α->γ)(g:β->γ):γ:=match o with
 |.inl a=>f a
 |.inr b=>g b
def zwm:Lf->Option Bool
 |.b x=>some x
 |_=>none
def zwo:Lf->Option Int
 |.i x=>some x
 |_=>none
def zwn:Lf->Option UInt8
 |.c x=>some x
 |_=>none
def zwr:Lf->Option (List UInt8)
 |.s x=>some x
 |_=>none
def zwq:Lf->Option Nat
 |.n x=>some x
 |_=>none
def zwp(u:U):Lf->Option (List (El u))
 |.l v x=>xr v u x
 |_=>none
def zvK(u:U):Lf->Option (El u)
 |.e v x=>if h:v=u then some (h ▸ x) else none
 |_=>none
inductive LK where
 |b|i|c|s|n|l (u:U)|e (u:U)
@[reducible] def LK.T:LK->Type
 |.b=>Bool|.i=>Int|.c=>UInt8|.s=>List UInt8|.n=>Nat|.l u=>List (El u)|.e u=>El u
def LK.g:(k:LK)->Lf->Option k.T
 |.b=>zwm|.i=>zwo|.c=>zwn|.s=>zwr|.n=>zwq|.l u=>zwp u|.e u=>zvK u
def LK.m:(k:LK)->k.T->Lf
 |.b=>.b|.i=>.i|.c=>.c|.s=>.s|.n=>.n|.l u=>.l u|.e u=>.e u
@[reducible] def LTs:List LK->Type
 | []=>Unit
 |k::ks=>k.T×LTs ks
def eL:(ks:List LK)->LTs ks->List Lf
 | [],_=>[]
 |k::ks,(x,y)=>k.m x::eL ks y
def dL:(ks:List LK)->List Lf->Option (LTs ks)
 | [],[]=>some ()
 |k::ks,w::ws=>match k.g w,dL ks ws with
  |some a,some b=>some (a,b)
  |_,_=>none
 |_,_=>none
theorem LK.g_s:∀ {k:LK} {w:Lf} {x:k.T},k.g w=some x->w=k.m x
 |.b,w,x,h=>by cases w<;>first|(cases h;rfl)|cases h
 |.i,w,x,h=>by cases w<;>first|(cases h;rfl)|cases h
 |.c,w,x,h=>by cases w<;>first|(cases h;rfl)|cases h
 |.s,w,x,h=>by cases w<;>first|(cases h;rfl)|cases h
 |.n,w,x,h=>by cases w<;>first|(cases h;rfl)|cases h
 |.l u,w,x,h=>by
  cases w<;>first|(cases h;done)|skip
  obtain⟨e,h2⟩:=qi h
  subst e;cases h2;rfl
 |.e u,w,x,h=>by
  cases w<;>first|(cases h;done)|skip
  simp only[LK.g,zvK] at h
  split at h
  ·rename_i e;subst e;cases h;rfl
  ·cases h
theorem zuQ:∀ {ks:List LK} {ls:List Lf} {x:LTs ks},dL ks ls=some x->ls=eL ks x
 | [],[],x,h=>rfl
 | [],_::_,x,h=>by cases h
 |_::_,[],x,h=>by cases h
 |k::ks,w::ws,x,h=>by
  simp only[dL] at h
  split at h
  ·rename_i a b ha hb
   cases h
   rw[LK.g_s ha,zuQ hb];rfl
  ·cases h
@[reducible] def Cv(O:Type):List (List LK)->Type
 | []=>Unit
 |ks::r=>(LTs ks->O)×Cv O r
def dO{O:Type}:(oks:List (List LK))->Cv O oks->Nat->List Lf->Option O
 | [],_,_,_=>none
 |ks::_,(f,_),0,os=>(dL ks os).map f
 |_::r,(_,fs),k+1,os=>dO r fs k os
def zuz{O:Type}(kc:KC O):(oks:List (List LK))->Cv O oks->Nat->Prop
 | [],_,_=>True
 |ks::r,(f,fs),j=>(∀ x R κ,kc R (f x) κ=κ j (eL ks x))/\zuz kc r fs (j+1)
theorem zvJ{O:Type}{kc:KC O}:∀ {oks:List (List LK)} {cv:Cv O oks} {j:Nat},zuz kc oks cv j->∀ k os o,dO oks cv k os=some o->∀ R κ,kc R o κ=κ (j+k) os
 | [],_,_,_,k,os,o,h=>by cases h
 |ks::r,(f,fs),j,⟨h1,h2⟩,0,os,o,h=>fun R κ=>by
  simp only[dO,Option.map_eq_some_iff] at h
  obtain⟨x,hx,rfl⟩:=h
  rw[h1,zuQ hx];rfl
 |ks::r,(f,fs),j,⟨h1,h2⟩,k+1,os,o,h=>fun R κ=>by
  rw[zvJ h2 k os o h R κ,Nat.add_right_comm,Nat.add_assoc]
def lsT{O:Type}(ks:List LK)(F:LTs ks->Option O)(kc:KC O):LS:=fun R ls κ=>((dL ks ls).bind F).bind fun o=>kc R o κ
def zqv:Code->List Nat->Code
 |c,[]=>c
 |.seq a _,0::p=>zqv a p
 |.seq _ b,_::p=>zqv b p
 |.cond _ a _,0::p=>zqv a p
 |.cond _ _ b,_::p=>zqv b p
 |.block _ c,_::p=>zqv c p
 |.loop c,_::p=>zqv c p
 |.rangeFunc _ _ a _,0::p=>zqv a p
 |.rangeFunc _ _ _ b,_::p=>zqv b p
 |_,_=>.skip
def roundOf(fn:Func)(p:List Nat):Code:=match fn.body with
 |some c=>match zqv c p with
  |.loop b=>b
  |_=>.skip
 |none=>.skip
def zqM{α:Type 1}:Option (List α)->Option (List α)->Option (List α)
 |some a,some b=>some (a++b)
 |_,_=>none
def zZ(P:Program):Pl->Code->Option (List (Code×LF))
 |.auto,_=>some []
 |.two a b,c=>match c with
  |.seq x y=>zqM (zZ P a x) (zZ P b y)
  |.cond _ x y=>zqM (zZ P a x) (zZ P b y)
  |.loop x=>zqM (zZ P a x) (zZ P b (.loop x))
  |_=>none
 |.one a,c=>match c with
  |.block _ x=>zZ P a x
  |.loop x=>zZ P a x
  |_=>none
 |.cal _ f a rest,c=>match P.funcs[f]? with
  |some fn=>match fn.body with
   |some b=>zqM (zZ P a b) (zZ P rest c)
   |none=>none
  |none=>none
 |.by_ g,c=>match c with
  |.loop x=>some [(.loop x,g)]
  |.region id ops true=>some [(.region id ops true,g)]
  |.rangeFunc f ps a b=>some [(.rangeFunc f ps a b,g)]
  |_=>none
 |.yl _ id a b rest,c=>match j2.at_ id with
  |some (_,asg,body)=>zqM (zZ P a asg) (zqM (zZ P b body) (zZ P rest c))
  |none=>zZ P rest c
section
variable {P:Program} {gl:GL} {hk:ja}
def zbS(P:Program)(gl:GL)(hk:ja):List (Code×LF)->Prop
 | []=>True
 |(c,g)::l=>zjS P gl hk c g/\zbS P gl hk l
theorem zbS.app:∀ {a b:List (Code×LF)},zbS P gl hk (a++b)->zbS P gl hk a/\zbS P gl hk b
 | [],b,h=>⟨trivial,h⟩
 |_::_,b,⟨h1,h2⟩=>⟨⟨h1,(zbS.app h2).1⟩,(zbS.app h2).2⟩
theorem zaW{α:Type 1}{a b:Option (List α)}{l:List α}(h:zqM a b=some l):∃ x y,a=some x/\b=some y/\l=x++y:=by
 unfold zqM at h
 split at h
 ·cases h;exact⟨_,_,rfl,rfl,rfl⟩
 ·cases h
theorem jY:∀ {pl:Pl} {c:Code} {ls:List (Code×LF)},zZ P pl c=some ls->zbS P gl hk ls->wH P gl hk pl c
 |.auto,_,_,_,_=>trivial
 |.two a b,c,ls,h,hs=>by
  unfold zZ at h
  split at h
  ·obtain⟨x,y,h1,h2,rfl⟩:=zaW h
   exact⟨jY h1 (zbS.app hs).1,jY h2 (zbS.app hs).2⟩
  ·obtain⟨x,y,h1,h2,rfl⟩:=zaW h
   exact⟨jY h1 (zbS.app hs).1,jY h2 (zbS.app hs).2⟩
  ·obtain⟨x,y,h1,h2,rfl⟩:=zaW h
   exact⟨jY h1 (zbS.app hs).1,jY h2 (zbS.app hs).2⟩
  ·cases h
 |.one a,c,ls,h,hs=>by
  unfold zZ at h
  split at h
  ·exact jY (pl:=a) h hs
  ·exact jY (pl:=a) h hs
  ·cases h
 |.cal i f a rest,c,ls,h,hs=>by
  unfold zZ at h
  split at h
  ·rename_i fn hf
   split at h
   ·rename_i b hb
    obtain⟨x,y,h1,h2,rfl⟩:=zaW h
    refine⟨fun fn' b' hf' hb'=>?_,jY h2 (zbS.app hs).2⟩
    rw[hf] at hf';cases hf'
    rw[hb] at hb';cases hb'
    exact jY h1 (zbS.app hs).1
   ·cases h
  ·cases h
 |.by_ g,c,ls,h,hs=>by
  unfold zZ at h
  split at h
  ·cases h;exact hs.1
  ·cases h;exact hs.1
  ·cases h;exact hs.1
  ·cases h
 |.yl _ id a b rest,c,ls,h,hs=>by
  unfold zZ at h
  split at h
  ·rename_i ps asg body hc
   obtain⟨x,y,h1,h2,rfl⟩:=zaW h
   obtain⟨y1,y2,h3,h4,rfl⟩:=zaW h2
   refine⟨fun ps' asg' body' hc'=>?_,jY h4 (zbS.app (zbS.app hs).2).2⟩
   rw[hc] at hc';cases hc'
   exact⟨jY h1 (zbS.app hs).1,jY h3 (zbS.app (zbS.app hs).2).1⟩
  ·rename_i hc
   exact⟨fun ps asg body hc'=>(by rw[hc] at hc';cases hc'),jY h hs⟩
theorem zf7{f:FuncId}{fn:Func}{pl:Pl}{ls:List (Code×LF)}(hf:P.funcs[f]?=some fn)(h:(match fn.body with|some b=>zZ P pl b|none=>none)=some ls)(hs:zbS P gl hk ls):∀ fn b,P.funcs[f]?=some fn->fn.body=some b->wH P gl hk pl b:=by
 intro fn' b hf' hb
 rw[hf] at hf';cases hf'
 rw[hb] at h
 exact jY h hs
theorem zbS.nil:zbS P gl hk []:=trivial
theorem zbS.cons{c:Code}{g:LF}{l:List (Code×LF)}(h:zjS P gl hk c g)(t:zbS P gl hk l):zbS P gl hk ((c,g)::l):=⟨h,t⟩
def zhk:List (FuncId×CF)->CT
 | [],_=>none
 |(f,g)::l,k=>match Nat.beq k f with
  |true=>some g
  |false=>zhk l k
def zjP(P:Program)(gl:GL)(hk:ja):List (FuncId×CF)->Prop
 | []=>True
 |(f,g)::l=>zgN P gl hk f g/\zjP P gl hk l
theorem zhl:∀ {l:List (FuncId×CF)},zjP P gl hk l->∀ f g,zhk l f=some g->zgN P gl hk f g
 | [],_,f,g,h=>by cases h
 |(f0,g0)::l,⟨h1,h2⟩,f,g,h=>by
  unfold zhk at h
  split at h
  ·rename_i he
   cases h
   rw[Nat.eq_of_beq_eq_true he];exact h1
  ·exact zhl h2 f g h
def zo7:List (FuncId×CF)->FuncId->Bool
 | [],_=>false
 |(f,_)::l,k=>Nat.beq k f||zo7 l k
theorem ziR:∀ {l:List (FuncId×CF)} {k:FuncId},zo7 l k=true->∃ g,zhk l k=some g
 | [],k,h=>by cases h
 |(f,g)::l,k,h=>by
  unfold zhk
  cases hb:Nat.beq k f with
  |true=>exact⟨g,rfl⟩
  |false=>simp only[zo7,hb,Bool.false_or] at h;exact ziR h
structure zo6(P:Program)(hk:ja)(al:List FuncId):Prop where
 h:∀ f g,hk f=some g->f ∉ al->(P.funcs[f]?).bind (·.body)=none
theorem zsK{l:List (FuncId×CF)}{al:List FuncId}(hh:zo6 P hk al)(ha:(al.all fun f=>zo7 l f)=true)(hl:zjP P gl hk l):zmD P gl (zhk l) hk:=
 ⟨zhl hl,fun f g hf hc=>hh.h f g hf fun hm=>by
  obtain⟨g',h⟩:=ziR (List.all_eq_true.1 ha f hm)
  rw[hc] at h;cases h⟩
abbrev FT:=List (FuncId×CF)
section
variable {T:FT} {al:List FuncId} (hh:zo6 P hk al) (ha:(al.all fun f=>zo7 T f)=true) (hT:zjP P gl hk T)
include hh ha hT
theorem zu2{n:Nat}(pl:Pl){c:Code}{ls:List (Code×LF)}(h:zZ P pl c=some ls)(hs:zbS P gl hk ls){pre:List (Nat×U)}{p:PS}{outs:List (SX×PS)}{ks:List LK}{oks:List (List LK)}{O:Type}(G:Nat->LTs ks->Option O)(cv:Cv O oks){kc:KC O}
  (h0:∀ x,G 0 x=none) (hr:∀ m x,round P gl (zhk T) n pl p outs c (eL ks x) (fun ls=>(dL ks ls).bind (G m)) (dO oks cv)=G (m+1) x) (ho:zuz kc oks cv 0) (N:Nat):zjS P gl hk (.loop c) (zU pre p outs (lsT ks (G N) kc)):=
 zl9 (zsK hh ha hT) (jY h hs) (G:=fun m ls=>(dL ks ls).bind (G m)) (od:=dO oks cv)
  (fun ls=>by cases dL ks ls with
   |none=>rfl
   |some x=>exact h0 x)
  (fun m ls o h=>by
   cases hd:dL ks ls with
   |none=>rw[hd] at h;cases h
   |some x=>
    rw[hd] at h
    rw[zuQ hd,hr];exact h)
  (fun k os o h R κ=>by rw[zvJ ho k os o h R κ,Nat.zero_add]) N
theorem fnG{n:Nat}{f:FuncId}{us rs:List U}{F:El (zae us)->Option (El (zae rs))}(pl:Pl){fn:Func}(hf:P.funcs[f]?=some fn){ls:List (Code×LF)}(h:(match fn.body with|some b=>zZ P pl b|none=>none)=some ls)(hs:zbS P gl hk ls)
  (hF:∀ x,zaa P gl (zhk T) n pl f (qQ us x) [] (zda rs)=F x):zjP P gl hk ((f,jl us rs F)::T):=⟨zm0 (zsK hh ha hT) (zf7 hf h hs) hF,hT⟩
theorem zwk{n:Nat}{f:FuncId}{u:U}{rs:List U}{F:List (El u)->Option (El (zae rs))}(pl:Pl){fn:Func}(hf:P.funcs[f]?=some fn){ls:List (Code×LF)}(h:(match fn.body with|some b=>zZ P pl b|none=>none)=some ls)(hs:zbS P gl hk ls)
  (h1:∀ l,zaa P gl (zhk T) n pl f [.nsl u l] [] (zda rs)=F l) (h2:zaa P gl (zhk T) n pl f [.a .qp] [] (zda rs)=F []):zjP P gl hk ((f,jl [.sl u] rs fun x=>F x.1)::T):=⟨zhv (zsK hh ha hT) (zf7 hf h hs) h1 h2,hT⟩
end
section
variable {al:List FuncId} (hh:zo6 P hk al) {T:FT} (hT:zjP P gl hk T)
include hh hT
theorem jt(pl:Pl){c:Code}{ls:List (Code×LF)}(hs:zbS P gl hk ls){pre:List (Nat×U)}{p:PS}{outs:List (SX×PS)}(ks:List LK)(oks:List (List LK)){O:Type}(G:Nat->LTs ks->Option O)(cv:Cv O oks){kc:KC O}(N:Nat)
  (ha:(al.all fun f=>zo7 T f)=true:=by rfl) (n:Nat:=1500) (h:zZ P pl c=some ls:=by kernel_rfl) (h0:∀ x,G 0 x=none:=by intro x;rfl) (hr:∀ m x,round P gl (zhk T) n pl p outs c (eL ks x) (fun ls=>(dL ks ls).bind (G m)) (dO oks cv)=G (m+1) x:=by intro m x;kernel_rfl)
  (ho:zuz kc oks cv 0:=by repeat' (first|exact trivial|refine⟨fun _ _ _=>rfl,?_⟩)):zjS P gl hk (.loop c) (zU pre p outs (lsT ks (G N) kc)):=zu2 hh ha hT pl h hs G cv h0 hr ho N
theorem fnA{f:FuncId}{us rs:List U}{F:El (zae us)->Option (El (zae rs))}(pl:Pl){fn:Func}(hf:P.funcs[f]?=some fn){ls:List (Code×LF)}(hs:zbS P gl hk ls)
  (ha:(al.all fun f=>zo7 T f)=true:=by rfl) (n:Nat:=1500) (h:(match fn.body with|some b=>zZ P pl b|none=>none)=some ls:=by kernel_rfl)
  (hF:∀ x,zaa P gl (zhk T) n pl f (qQ us x) [] (zda rs)=F x:=by intro x;kernel_rfl):zjP P gl hk ((f,jl us rs F)::T):=fnG hh ha hT pl hf h hs hF
theorem zwj{f:FuncId}{u:U}{rs:List U}{F:List (El u)->Option (El (zae rs))}(pl:Pl){fn:Func}(hf:P.funcs[f]?=some fn){ls:List (Code×LF)}(hs:zbS P gl hk ls)
  (ha:(al.all fun f=>zo7 T f)=true:=by rfl) (n:Nat:=1500) (h:(match fn.body with|some b=>zZ P pl b|none=>none)=some ls:=by kernel_rfl)
  (h1:∀ l,zaa P gl (zhk T) n pl f [.nsl u l] [] (zda rs)=F l:=by intro l;kernel_rfl) (h2:zaa P gl (zhk T) n pl f [.a .qp] [] (zda rs)=F []:=by kernel_rfl):zjP P gl hk ((f,jl [.sl u] rs fun x=>F x.1)::T):=zwk hh ha hT pl hf h hs h1 h2
end
def dr:Nat->List PV->List PV
 |0,l=>l
 |n+1,l=>.drop::dr n l
theorem za5{f:FuncId}{k:XK}:∀ {tab:List (FuncId×XK)},tab.lookup f=some k->(f,k) ∈ tab
 | [],h=>by cases h
 |(g,k')::l,h=>by
  unfold List.lookup at h
  split at h
  ·rename_i he
   cases h
   rw[eq_of_beq he];exact List.mem_cons_self
  ·exact List.mem_cons_of_mem _ (za5 h)
theorem zpr{tab:List (FuncId×XK)}(h:(tab.all fun p=>((P.funcs[p.1]?).bind (·.body)).isNone)=true):zo6 P (zo8 tab) []:=by
 refine⟨fun f g hf _=>?_⟩
 unfold zo8 at hf
 cases hl:tab.lookup f with
 |none=>rw[hl] at hf;cases hf
 |some k=>
  have:=List.all_eq_true.1 h _ (za5 hl)
  simpa using this
theorem zhJ{hk:ja}{al:List FuncId}(h:zo6 P hk al)(f:FuncId)(g:List AV->zf->Option CR):zo6 P (ki hk f g) (f::al):=by
 refine⟨fun k g' hk' hn=>?_⟩
 unfold ki at hk'
 simp only[List.mem_cons,not_or] at hn
 cases hb:Nat.beq k f with
 |true=>exact absurd (Nat.eq_of_beq_eq_true hb) hn.1
 |false=>rw[hb] at hk';exact h.h k g' hk' hn.2
def zsI:List AV->zf->Option CR:=fun args h=>match args with
 | []=>some (.ret (.bool true) h)
 |_=>none
theorem zo4{hk:ja}{f:FuncId}(h:hk f=some zsI):zgN P gl hk f (jl [] [.bool] fun _=>some (true,())):=by
 intro R args κ r X margs hc hargs hr hg
 unfold jl at hc
 cases args with
 |nil=>
  simp only[jK,Option.bind] at hc
  cases(show margs=[] from hargs)
  refine⟨_,X,.ret (.bool true) X.h,hc,.refl hr,⟨rfl,rfl,rfl⟩,Ev.all fun n=>?_⟩
  simp only[qV,h,zsI]
 |cons=>simp [jK] at hc
end
def Wf:(u:U)->El u->Prop
 |.bool,_=>True
 |.int k,n=>k.min<=n/\(n:Int)<=k.max
 |.u8,_=>True
 |.str,l=>(l:List UInt8).length<=maxLen
 |.sl u,l=>(l:List (El u)).length<=maxLen/\∀ x ∈ (l:List (El u)),Wf u x
 |.pair u v,x=>Wf u x.1/\Wf v x.2
 |.unit,_=>True
def zpd(P:Program):Nat->TypeId->Bool
 |0,_=>false
 |d+1,t=>match P.underlying t with
  |some .bool=>Nat.beq (P.cellsOf t) 1
  |some (.int _)=>Nat.beq (P.cellsOf t) 1
  |some .string=>Nat.beq (P.cellsOf t) 1
  |some (.slice e)=>Nat.beq (P.cellsOf t) 1&&Nat.blt 0 (P.cellsOf e)&&zpd P d e
  |some (.struct fs)=>flush P fs.toList 0 (P.cellsOf t)&&fs.toList.all fun f=>zpd P d f.type
  |_=>false
theorem zaG{α:Type}[Inhabited α]{a:Arr α}{l m:List α}:(a++l)++m=a++(l++m):=by
 induction l generalizing a with
 |nil=>rfl
 |cons x l ih=>exact ih (a:=a.push x)
section
variable {P:Program} {B:Nat} {w:World} {H:Type} {enc:TypeId×Value->H} {base:Nat} {held:Bool}
abbrev PhA(h:zf):Nat->Prop:=fun m=>m<h.length
theorem RE.app{h:zf}{u:U}{x:El u}{cs:List AV}(q:RE h (PhA h) u x cs)(E:List Blk):RE (h++E) (PhA (h++E)) u x cs:=
 q.le (fun m hm=>Arr.qR hm) fun m hm=>by show m<(h++E).length;rw[Arr.zS];have:m<h.length:=hm;omega
theorem VL.ext{G G':Gh}(h:G.ext G'){l:List AV}{us:List Value}(q:VL G l us):VL G' l us:=q.le h.le
def Lays(P:Program)(B:Nat)(w:World)(enc:TypeId×Value->H)(base:Nat)(held:Bool)(u:U)(Q:List Value->Prop):Prop:=
 ∀ (G:Gh) (h:zf) (cs:List Value),HR G B h w->Q cs->∃ (G':Gh) (E:List Blk) (x:El u) (avs:List AV),HR G' B (h++E) w/\G.ext G'/\VL G' avs cs/\RE (h++E) (PhA (h++E)) u x avs/\Wf u x
theorem zfZ{d:Nat}(ih:∀ (t:TypeId) (u:U),uOf P d t=some u->zpd P d t=true->Lays P B w enc base held u fun cs=>∃ n d' p,DataW.trod enc P w base (fun _=>true) held n t cs=some (d',p)):
  ∀ (fs:List Field) (u:U),kQ (uOf P d) fs=some u->(fs.all fun f=>zpd P d f.type)=true->∀ (G:Gh) (h:zf) (css:List (List Value)),HR G B h w->css.length=fs.length ->
   (∀ (i:Nat) (f:Field) (cs:List Value),fs[i]?=some f->css[i]?=some cs->∃ n d' p,DataW.trod enc P w base (fun _=>true) held n f.type cs=some (d',p)) ->
   ∃ (G':Gh) (E:List Blk) (x:El u) (avs:List AV),HR G' B (h++E) w/\G.ext G'/\VL G' avs css.flatten/\RE (h++E) (PhA (h++E)) u x avs/\Wf u x
 | [],u,hu,hf,G,h,css,hr,hl,hc=>by
  cases hu
  have:css=[]:=List.length_eq_zero_iff.1 hl
  subst this
  exact⟨G,[],(),[],by rw[Arr.kS];exact hr,Gh.qE _,.nil,rfl,trivial⟩
 | [f],u,hu,hf,G,h,css,hr,hl,hc=>by
  match css,hl with
  | [cs],_=>
   simp only[List.all_cons,List.all_nil,Bool.and_true] at hf
   unfold kQ at hu
   split at hu
   ·cases hu
   ·obtain⟨G',E,x,avs,h1,h2,h3,h4,h5⟩:=ih _ _ hu hf G h cs hr (hc 0 f cs rfl rfl)
    exact⟨G',E,x,avs,h1,h2,by simpa using h3,h4,h5⟩
 |f::f2::fs,u,hu,hf,G,h,css,hr,hl,hc=>by
  match css,hl with
  |cs::css,hl=>
   simp only[List.all_cons,Bool.and_eq_true] at hf
   unfold kQ at hu
   split at hu
   ·rename_i u1 u2 _ e1 e2
    cases hu
    obtain⟨G1,E1,x,avs,h1,h2,h3,h4,h5⟩:=ih _ _ e1 hf.1 G h cs hr (hc 0 f cs rfl rfl)
    obtain⟨G2,E2,y,bvs,k1,k2,k3,k4,k5⟩:=zfZ ih (f2::fs) u2 e2 (by simp only[List.all_cons,Bool.and_eq_true];exact hf.2) G1 (h++E1) css h1 (by simpa using hl) fun i f' cs' q1 q2=>hc (i+1) f' cs' (by simpa using q1) (by simpa using q2)
    refine⟨G2,E1++E2,(x,y),avs++bvs,?_,h2.trans k2,?_,?_,h5,k5⟩
    ·rw[<- zaG];exact k1
    ·rw[List.flatten_cons];exact(VL.ext k2 h3).append k3
    ·rw[<- zaG]
     exact⟨avs,bvs,rfl,RE.app h4 E2,k4⟩
   ·cases hu
theorem zi1{e:TypeId}{u:U}(hsz:0<u.sz)(ih:Lays P B w enc base held u fun cs=>∃ n d' p,DataW.trod enc P w base (fun _=>true) held n e cs=some (d',p)):
  ∀ (css:List (List Value)) (G:Gh) (h:zf),HR G B h w->(∀ (i:Nat) (cs:List Value),css[i]?=some cs->∃ n d' p,DataW.trod enc P w base (fun _=>true) held n e cs=some (d',p)) ->
   ∃ (G':Gh) (E:List Blk) (l:List (El u)) (avs:List AV),HR G' B (h++E) w/\G.ext G'/\VL G' avs css.flatten/\RCs (h++E) (PhA (h++E)) u l avs/\l.length=css.length/\∀ x ∈ l,Wf u x
 | [],G,h,hr,hc=>⟨G,[],[],[],by rw[Arr.kS];exact hr,Gh.qE _,.nil,⟨by simp,fun i e hi=>by simp at hi⟩,rfl,by simp⟩
 |cs::css,G,h,hr,hc=>by
  obtain⟨G1,E1,x,avs,h1,h2,h3,h4,h5⟩:=ih G h cs hr (hc 0 cs rfl)
  obtain⟨G2,E2,l,bvs,k1,k2,k3,k4,k5,k6⟩:=zi1 hsz ih css G1 (h++E1) h1 fun i cs' q=>hc (i+1) cs' (by simpa using q)
  have hal:=h4.length
  refine⟨G2,E1++E2,x::l,avs++bvs,by rw[<- zaG];exact k1,h2.trans k2,by rw[List.flatten_cons];exact(VL.ext k2 h3).append k3,⟨?_,fun i e hi=>?_⟩,by simp [k5],fun y hy=>?_⟩
  ·rw[List.length_append,hal,k4.1,List.length_cons,Nat.add_mul];omega
  ·rw[<- zaG]
   cases i with
   |zero=>
    simp at hi;subst hi
    have:part u.sz (avs++bvs) 0=avs:=by unfold part;rw[Nat.zero_mul,List.drop_zero,<- hal,List.take_left]
    rw[this];exact RE.app h4 E2
   |succ i=>
    have:part u.sz (avs++bvs) (i+1)=part u.sz bvs i:=by
     unfold part
     rw[show(i+1)*u.sz=avs.length+i*u.sz by rw[hal,Nat.add_mul];omega,<- List.drop_drop,List.drop_left]
    rw[this];exact k4.2 i e (by simpa using hi)
  ·rcases List.mem_cons.1 hy with rfl|hy
   ·exact h5
   ·exact k6 y hy
theorem zoY:∀ {d:Nat} {t:TypeId} {u:U},uOf P d t=some u->zpd P d t=true->u.sz=P.cellsOf t
 |0,t,u,h,_=>by cases h
 |d+1,t,u,h,hf=>by
  unfold uOf at h
  unfold zpd at hf
  split at h
  ·rename_i hu;rw[hu] at hf;cases h;exact(zg hf).symm
  ·rename_i hu;rw[hu] at hf;cases h;exact(zg hf).symm
  ·rename_i hu;rw[hu] at hf;cases h;exact(zg hf).symm
  ·rename_i hu;rw[hu] at hf;cases h;exact(zg hf).symm
  ·rename_i hu;rw[hu] at hf
   simp only[Bool.and_eq_true] at hf
   cases hq:uOf P d _ with
   |none=>rw[hq] at h;cases h
   |some v=>rw[hq] at h;cases h;exact(zg hf.1.1).symm
  ·rename_i fs hu;rw[hu] at hf
   simp only[Bool.and_eq_true] at hf
   have key:∀ (l:List Field) (u:U) (o n:Nat),kQ (uOf P d) l=some u->(l.all fun f=>zpd P d f.type)=true->flush P l o n=true->o+u.sz=n:=by
    intro l
    induction l with
    |nil=>intro u o n h1 h2 h3;cases h1;have:=Nat.eq_of_beq_eq_true h3;simpa [U.sz] using this
    |cons f l ih=>
     intro u o n h1 h2 h3
     simp only[List.all_cons,Bool.and_eq_true] at h2
     simp only[flush,Bool.and_eq_true] at h3
     cases l with
     |nil=>
      unfold kQ at h1
      split at h1
      ·cases h1
      ·have e1:=zoY h1 h2.1
       have:=Nat.eq_of_beq_eq_true h3.2
       omega
     |cons f2 l=>
      unfold kQ at h1
      split at h1
      ·rename_i u1 u2 _ e1 e2
       cases h1
       have q1:=zoY e1 h2.1
       have q2:=ih _ _ _ e2 h2.2 h3.2
       simp only[U.sz];omega
      ·cases h1
   have:=key _ _ _ _ h hf.2 hf.1
   omega
  ·cases h
theorem zfY(hB:B=w.heap.size)(hz:∃ (b0:Nat) (c:Array Value) (T:TypeId) (fr:Nat×Nat),w.heap[b0]?=some (.cells c T fr)):∀ (m:Nat) (t:TypeId) (u:U),uOf P m t=some u->zpd P m t=true ->
  Lays P B w enc base held u fun cs=>∃ n d' p,DataW.trod enc P w base (fun _=>true) held n t cs=some (d',p)
 |0,t,u,hu,_=>by cases hu
 |m+1,t,u,hu,hf=>by
  intro G h cs hr ⟨n,d,p,ht⟩
  unfold uOf at hu
  unfold zpd at hf
  split at hu
  ·rename_i hund;rw[hund] at hf;cases hu
   obtain⟨b',rfl,e⟩:=DataW.trod_bool hund ht
   exact⟨G,[],b',[.bool b'],by rw[Arr.kS];exact hr,Gh.qE _,.cons (.bool _) .nil,rfl,trivial⟩
  ·rename_i hund;rw[hund] at hf;cases hu
   obtain⟨b,rfl,_,hw⟩:=DataW.trod_int hund ht
   have hb:0<=b/\b<=255:=by simpa [Lit.wf,IntKind.min,IntKind.max,IntKind.signed,IntKind.bits] using hw
   refine⟨G,[],UInt8.ofNat b.toNat,[.int .u8 b],by rw[Arr.kS];exact hr,Gh.qE _,.cons (.int _ _) .nil,?_,trivial⟩
   show[AV.int .u8 b]=[AV.int .u8 _]
   congr 2
   simp only[UInt8.toNat_ofNat']
   omega
  ·rename_i hund;rw[hund] at hf;cases hu
   obtain⟨b,rfl,_,hw⟩:=DataW.trod_int hund ht
   exact⟨G,[],b,[.int _ b],by rw[Arr.kS];exact hr,Gh.qE _,.cons (.int _ _) .nil,rfl,show _/\_ by simpa [Lit.wf] using hw⟩
  ·rename_i hund;rw[hund] at hf;cases hu
   obtain⟨b,rfl,_,hw⟩:=DataW.trod_string hund ht
   exact⟨G,[],b.data.toList,[.str b.data.toList],by rw[Arr.kS];exact hr,Gh.qE _,.cons (.str _) .nil,rfl,by show b.data.toList.length<=maxLen;rw[Array.length_toList];exact hw⟩
  ·rename_i e hund;rw[hund] at hf
   simp only[Bool.and_eq_true] at hf
   obtain⟨⟨_,hpos⟩,hfe⟩:=hf
   have hpos:=jI hpos
   cases hq:uOf P m e with
   |none=>rw[hq] at hu;cases hu
   |some v=>
    rw[hq] at hu;cases hu
    have hsz:=zoY hq hfe
    have ih:=zfY hB hz m e v hq hfe
    rcases DataW.trod_slice hund ht with⟨rfl,_⟩|⟨a,len,cap,el,rs,n',rfl,rfl,he,hba,hlc,hcm,hel,hee,hsp,_⟩
    ·exact⟨G,[],[],[.qp],by rw[Arr.kS];exact hr,Gh.qE _,.cons .qp .nil,⟨_,rfl,.inl ⟨rfl,rfl⟩⟩,by show 0<=maxLen;omega,by simp⟩
    ·obtain⟨hrl,hrr⟩:=hsp rfl
     have hcell:∀ i,i<cap->∃ cs',w.cells? base (a.add (i*P.cellsOf e)) (P.cellsOf e)=some cs':=by
      intro i hi
      by_cases hil:i<len
      ·have h0:=hee i hil
       rw[List.getElem?_eq_getElem (by omega)] at h0
       obtain⟨cs',e1,_⟩:=Option.bind_eq_some_iff.1 h0
       exact⟨cs',e1⟩
      ·have h0:=hrr (i-len) (by omega)
       rw[List.getElem?_eq_getElem (by omega),show len+(i-len)=i from by omega] at h0
       obtain⟨cs',e1,_⟩:=Option.bind_eq_some_iff.1 h0
       exact⟨cs',e1⟩
     rcases Nat.eq_zero_or_pos cap with hc0|hc0
     ·have hl0:len=0:=by omega
      subst hc0;subst hl0
      obtain⟨b0,c,T,fr,hb0⟩:=hz
      have hr2:=hr.zes (a:=⟨b0,0,none⟩) (xs:=[]) (cs:=[]) (by show b0<B;rw[hB];exact(Array.getElem?_eq_some_iff.1 hb0).1) hb0 .nil (fun j u hu=>by simp at hu) (by simp)
      refine⟨_,[.lay []],[],[.sl h.length 0 0 v.sz 0 false],hr2,Gh.zcj _ _,.cons ?_ .nil,⟨_,rfl,.inr ⟨h.length,0,0,false,[],rfl,.inl rfl,?_,?_,by simp,fun i e hi=>by simp at hi⟩⟩,by show 0<=maxLen;omega,by simp⟩
      ·exact V.sl0 (r:=⟨b0,0,0,c.size,0⟩) (by rw[<- hr.len,xR];rfl) (Nat.le_refl _) (Nat.le_refl _) (fun _=>Nat.le_refl _) (by omega)
      ·show h.length<(h++[Blk.lay []]).length;rw[Arr.zS];simp
      ·unfold rd
       rw[Arr.zT (Nat.le_refl _),Nat.sub_self]
       simp
     ·obtain⟨c0,ec0⟩:=hcell 0 hc0
      obtain⟨c,T,fr,q1,q2,_,_⟩:=xT ec0 hpos
      rw[(kA a _).1] at q1
      have ha0:a.add (0*P.cellsOf e)=a:=by simp [Addr.add]
      rw[ha0] at q2
      have hrow:∀ i,i<cap->∀ cs',w.cells? base (a.add (i*P.cellsOf e)) (P.cellsOf e)=some cs'->cs'.length=P.cellsOf e/\(∀ (k:Nat) (u:Value),cs'[k]?=some u->c[k+(a.off+i*P.cellsOf e)]?=some u)/\P.cellsOf e+(a.off+i*P.cellsOf e)<=c.size:=by
       intro i hi cs' ec
       obtain⟨c2,T2,fr2,g1,_,g3,g4⟩:=xT ec hpos
       rw[(kA a _).1,q1] at g1
       cases g1
       rw[(kA a _).2] at g3 g4
       exact⟨(zaX ec).1,g3,g4⟩
      have hget:∀ (i:Nat) (cs':List Value),((List.range len).map fun i=>(w.cells? base (a.add (i*P.cellsOf e)) (P.cellsOf e)).getD [])[i]?=some cs'->i<len/\w.cells? base (a.add (i*P.cellsOf e)) (P.cellsOf e)=some cs':=by
       intro i cs' e2
       rw[List.getElem?_map,Option.map_eq_some_iff] at e2
       obtain⟨j,e3,rfl⟩:=e2
       have hik:i<len:=by have:=(List.getElem?_eq_some_iff.1 e3).1;simpa using this
       rw[List.getElem?_range hik] at e3
       cases e3
       obtain⟨cs',ec⟩:=hcell i (by omega)
       exact⟨hik,by rw[ec];rfl⟩
      obtain⟨G1,E1,l,avs,r1,l1,v1,c1,len1,wf1⟩:=zi1 (by omega) ih ((List.range len).map fun i=>(w.cells? base (a.add (i*P.cellsOf e)) (P.cellsOf e)).getD []) G h hr fun i cs' e2=>by
       obtain⟨hik,ec⟩:=hget i cs' e2
       have h0:=hee i hik
       rw[ec,List.getElem?_eq_getElem (by omega)] at h0
       exact⟨n',_,_,h0⟩
      obtain⟨fl1,fl2⟩:=zj6 (c:=c) (sz:=P.cellsOf e) (o:=a.off) (css:=(List.range len).map fun i=>(w.cells? base (a.add (i*P.cellsOf e)) (P.cellsOf e)).getD []) fun i cs' e2=>by
       obtain⟨hik,ec⟩:=hget i cs' e2
       obtain⟨k1,k2,_⟩:=hrow i (by omega) cs' ec
       exact⟨k1,k2⟩
      have len1:l.length=len:=by rw[len1];simp
      rw[List.length_map,List.length_range] at fl1
      obtain⟨csl,ecl⟩:=hcell (cap-1) (by omega)
      obtain⟨_,_,hend⟩:=hrow (cap-1) (by omega) csl ecl
      have hcapsz:cap*P.cellsOf e=P.cellsOf e+(cap-1)*P.cellsOf e:=by
       obtain⟨k,rfl⟩:∃ k,cap=k+1:=⟨cap-1,by omega⟩
       rw[Nat.add_mul];simp;omega
      have hlensz:len*P.cellsOf e<=cap*P.cellsOf e:=Nat.mul_le_mul_right _ hlc
      have hlt:a.block<B:=by rw[hB];exact(Array.getElem?_eq_some_iff.1 q1).1
      have hxl:avs.length=len*P.cellsOf e:=by rw[<- v1.length,fl1]
      have hr2:=r1.zes hlt q1 v1 fl2 (by omega)
      refine⟨_,E1++[.lay avs],l,[.sl (h++E1).length 0 len v.sz 0 false],by rw[<- zaG];exact hr2,l1.trans (Gh.zcj _ _),.cons ?_ .nil,⟨_,rfl,.inr ⟨(h++E1).length,0,0,false,avs,by rw[len1],.inl rfl,?_,?_,?_,fun i e hi=>?_⟩⟩,by rw[len1];omega,wf1⟩
      ·have hV:=V.sl (G:=G1++[[⟨a.block,0,avs.length,c.size,a.off⟩]]) (loc:=(h++E1).length) (off:=0) (len:=len) (sz:=v.sz) (ver:=0) (cap:=cap) (clip:=false) (r:=⟨a.block,0,avs.length,c.size,a.off⟩) (by rw[<- r1.len,xR];rfl) (Nat.le_refl _) (by show 0+len*v.sz<=avs.length;rw[hsz];omega) hlc
        (by show 0+a.off-0+cap*v.sz<=c.size;rw[hsz];omega) (fun e=>by cases e) (fun _=>by show avs.length<=0+cap*v.sz;rw[hsz];omega) hcm (by omega)
       obtain⟨ab,ao,as1⟩:=a
       simp only at q2
       subst q2
       simpa using hV
      ·show(h++E1).length<(h++(E1++[Blk.lay avs])).length
       rw[<- zaG,Arr.zS (a:=h++E1)];simp
      ·unfold rd
       rw[<- zaG,Arr.zT (Nat.le_refl _),Nat.sub_self]
       have:l.length*v.sz=avs.length:=by rw[len1,hxl,hsz]
       simp [this]
      ·rw[len1,hsz,hxl]
      ·rw[<- zaG];exact RE.app (c1.2 i e hi) _
  ·rename_i fs hund;rw[hund] at hf
   simp only[Bool.and_eq_true] at hf
   obtain⟨ys,n',rfl,he,hlen,hyl,hy⟩:=DataW.trod_struct hund ht
   have hflat:=zed (cs:=cs) hf.1 hlen (Nat.zero_le _)
   rw[List.drop_zero] at hflat
   have:=zfZ (fun t u h1 h2=>zfY hB hz m t u h1 h2) fs.toList u hu hf.2 G h (fs.toList.map fun f=>(cs.drop f.offset).take (P.cellsOf f.type)) hr (by simp) fun i f cs' e1 e2=>by
    rw[List.getElem?_map,Option.map_eq_some_iff] at e2
    obtain⟨f2,g2,rfl⟩:=e2
    rw[e1] at g2;cases g2
    have h0:=hy i f (by simpa using e1)
    have hi:i<ys.length:=by rw[hyl];have:=(List.getElem?_eq_some_iff.1 e1).1;simpa using this
    rw[List.getElem?_eq_getElem hi] at h0
    exact⟨n',_,_,h0⟩
   rw[hflat] at this
   exact this
  ·cases hu
end
theorem zmR{P:Program}{W:World}{base:Nat}{t:TypeId}{v:Value}{u:U}{d:Nat}(hu:uOf P (d+1) t=some u)(ha:zio P t=some u.agg)(hv:Value.okWide P W .any base t v){G:Gh}{avs:List AV}(hx:VL G avs v.cells.toList):
  (u.agg=true->V G (.agg avs) v)/\(u.agg=false->∀ x,avs=[x]->V G x v):=by
 refine⟨fun h=>?_,fun h x hxs=>?_⟩
 ·rw[h] at ha
  obtain⟨l,rfl⟩:=zsH ha hv
  exact .agg (by simpa [Value.cells] using hx)
 ·rw[h] at ha
  subst hxs
  cases hc:v.cells.toList with
  |nil=>rw[hc] at hx;cases hx
  |cons y ys=>
   rw[hc] at hx
   cases hx with
   |cons h1 h2=>
    cases h2
    rw[val_one ha hv hc];exact h1
def zuU(n:Nat)(h:zf)(keep:List Nat):GL:=(List.range n).map fun g=>match keep.contains g with
 |true=>match h[g]? with
  |some (.lay cs)=>zq2 cs
  |_=>none
 |false=>none
theorem ztJ{P:Program}{gl:GL}{n:Nat}{hgl:zf}{keep:List Nat}(h:zuU n hgl keep=gl)(hn:n<=P.globals.size)(E:List Blk):RGl P gl ⟨hgl++E,PhA (hgl++E),[],[]⟩:=by
 intro g cs hg
 rw[<- h] at hg
 unfold zuU at hg
 rw[List.getElem?_map] at hg
 cases hr:(List.range n)[g]? with
 |none=>rw[hr] at hg;cases hg
 |some g'=>
  obtain⟨hlt,e⟩:=List.getElem?_eq_some_iff.1 hr
  rw[List.getElem_range] at e
  subst e
  rw[List.length_range] at hlt
  rw[hr] at hg
  simp only[Option.map_some,Option.some.injEq] at hg
  split at hg
  ·split at hg
   ·rename_i cells hrow
    have hl:=Arr.lt hrow
    refine⟨by omega,?_,cells,?_,zeq hg⟩
    ·show g<(hgl++E).length;rw[Arr.zS];omega
    ·exact(Arr.qR hl).trans hrow
   ·cases hg
  ·cases hg
def zk6(P:Program):List TypeId->List U->Bool
 | [],[]=>true
 |t::ts,u::us=>decide (uOf P 6 t=some u)&&zpd P 6 t&&decide (zio P t=some u.agg)&&zk6 P ts us
 |_,_=>false
theorem U.zup{u:U}(h:u.agg=false):u.sz=1:=by cases u<;>first|rfl|cases h
theorem zi0{P:Program}{B:Nat}{w:World}{H:Type}{enc:TypeId×Value->H}{base:Nat}(hB:B=w.heap.size)(hz:∃ (b0:Nat) (c:Array Value) (T:TypeId) (fr:Nat×Nat),w.heap[b0]?=some (.cells c T fr)):
  ∀ (ts:List TypeId) (us:List U),zk6 P ts us=true->∀ (G:Gh) (h:zf) (vs:List Value) (ds:List (DataW H)) (ps:List MemPlace),HR G B h w->DataW.TrodAll enc P w 0 (fun _=>true) true ts vs ds ps ->
   (∀ (j:Nat) t v,ts[j]?=some t->vs[j]?=some v->Value.okWide P w .any base t v) ->
   ∃ (G':Gh) (E:List Blk) (x:El (zae us)) (margs:List AV),HR G' B (h++E) w/\G.ext G'/\VL G' margs vs/\RVs ⟨h++E,PhA (h++E),[],[]⟩ (qQ us x) margs/\Wf (zae us) x
 | [],us,ha,G,h,vs,ds,ps,hr,ht,hv=>by
  cases us with
  |cons=>cases ha
  |nil=>
   obtain⟨rfl,rfl⟩:=zlL ht
   exact⟨G,[],(),[],by rw[Arr.kS];exact hr,Gh.qE _,.nil,rfl,trivial⟩
 |t::ts,us,ha,G,h,vs,ds,ps,hr,ht,hv=>by
  cases us with
  |nil=>cases ha
  |cons u us=>
   simp only[zk6,Bool.and_eq_true,decide_eq_true_eq] at ha
   obtain⟨⟨⟨h1,h2⟩,h3⟩,h4⟩:=ha
   obtain⟨v,vs',d,ds',p,q,rfl,rfl,⟨n,h5⟩,h6⟩:=zlM ht
   obtain⟨G1,E1,x,avs,k1,k2,k3,k4,k5⟩:=zfY (enc:=enc) (base:=0) (held:=true) hB hz 6 t u h1 h2 G h _ hr ⟨n,d,p,h5⟩
   obtain⟨a1,a2⟩:=zmR h1 h3 (hv 0 t v rfl rfl) k3
   obtain⟨G2,E2,y,margs,m1,m2,m3,m4,m5⟩:=zi0 hB hz ts us h4 G1 (h++E1) vs' ds' q k1 h6 fun j t' v' e1 e2=>hv (j+1) t' v' (by simpa using e1) (by simpa using e2)
   rw[zaG] at m1 m4
   have k6:=RE.app k4 E2
   rw[zaG] at k6
   obtain⟨b1,b2⟩:=zez (Z:=⟨h++(E1++E2),PhA (h++(E1++E2)),[],[]⟩) rfl rfl k6
   cases hag:u.agg with
   |true=>exact⟨G2,E1++E2,(x,y),.agg avs::margs,m1,k2.trans m2,.cons ((a1 hag).le m2.le) m3,⟨_,_,rfl,b1 hag,m4⟩,k5,m5⟩
   |false=>
    have hl:=k4.length
    rw[U.zup hag] at hl
    match avs,hl with
    | [a],_=>exact⟨G2,E1++E2,(x,y),a::margs,m1,k2.trans m2,.cons ((a2 hag a rfl).le m2.le) m3,⟨_,_,rfl,b2 hag a rfl,m4⟩,k5,m5⟩
theorem zpy{P:Program}{gl:GL}{ct:Nat->CT}{hk:ja}{hgl:zf}{Gg:Gh}{W:World}(hmo:P.follows .mixedOrders=true)(hng:zmE P)(hh:HOK P hgl Gg hk)(hL:Laid P hgl Gg W.heap.size W)(hgl2:∀ E:List Blk,RGl P gl ⟨hgl++E,PhA (hgl++E),[],[]⟩)
  (hct:∀ N,zmD P gl (ct N) hk) {n:Nat} {pl:Nat->Pl} {f:FuncId} {us:List U} {F:Nat->El (zae us)->Option (El (zae [.bool]))} (hpl:∀ N fn b,P.funcs[f]?=some fn->fn.body=some b->wH P gl hk (pl N) b) (hkf:hk f=none)
  (hF:∀ N x,zaa P gl (ct N) n (pl N) f (qQ us x) [] (zda [.bool])=F N x) {ts:List TypeId} (ha:zk6 P ts us=true) {H:Type} {enc:TypeId×Value->H} {base:Nat} {args:Array Value} {ds:List (DataW H)} {ps:List MemPlace}
  (ht:DataW.TrodAll enc P W 0 (fun _=>true) true ts args.toList ds ps) (hv:∀ (j:Nat) t v,ts[j]?=some t->args.toList[j]?=some v->Value.okWide P W .any base t v)
  (hz:∃ (b0:Nat) (c:Array Value) (T:TypeId) (fr:Nat×Nat),W.heap[b0]?=some (.cells c T fr)) (hlaw:∀ x,Wf (zae us) x->∃ N,F N x=some (true,())):
  Calls P f args W fun e W'=>e=.returned (.bool true)/\zqE W W':=by
 obtain⟨G,E,x,margs,h1,h2,h3,h4,h5⟩:=zi0 (B:=W.heap.size) rfl hz ts us ha Gg hgl args.toList ds ps hL.hr ht hv
 have hRH:RH ⟨hgl++E,PhA (hgl++E),[],[]⟩:=⟨rfl,fun i j m v v' h=>by simp at h,fun i m v h=>by simp at h,fun m h=>h,fun i b o h=>by simp at h,fun i m v b h=>by simp at h⟩
 obtain⟨N,hN⟩:=hlaw x h5
 obtain⟨q,Y,mq,k1,S,k2,n0,k3⟩:=(zcd (hct N) n).2.2.1 (pl N) f (hpl N) _ _ _ _ ⟨hgl++E,PhA (hgl++E),[],[]⟩ margs ((hF N x).trans hN) h4 hRH (hgl2 E)
 have k3:=k3 n0 (Nat.le_refl _)
 cases q with
 |pan v sh=>cases k1
 |ret v sh=>
  cases mq with
  |pan=>cases k2
  |ret xv h'=>
   obtain⟨e1,e2,hv2⟩:=k2
   have hxv:xv=.bool true:=by
    simp only[zda,unS] at k1
    cases v with
    |a w=>cases w with
     |bool b=>
      simp [jK,xj,U.agg,SV.cells,dec] at k1
      cases(show xv=_ from hv2)
      have e:=(Prod.mk.inj (Option.some.inj k1)).1
      rw[e]
     |_=>simp [jK,xj,U.agg,SV.cells,dec] at k1
    |agg=>simp [jK,xj,U.agg] at k1
    |_=>simp [jK,xj,U.agg,SV.cells,dec] at k1
   subst hxv
   simp only[qV,hkf] at k3
   have hG:zd8 P W.heap.size W G W:=⟨fun g hg=>by
    obtain⟨r,q1,q2⟩:=hL.g g hg
    exact⟨r,h2.le _ _ _ q1,q2⟩,fun _ _=>rfl⟩
   refine(zhV (us:=args.toList) hmo hng (hh _ _ hL) k3 h3 h1 hG).mono fun e W' hcr=>?_
   obtain⟨g1,G',u,g2,g3⟩:=zm4 rfl (fun loc v r hat=>h1.lt _ _ _ hat) hcr
   cases g2
   exact⟨g3,g1⟩
end Go.Sx
namespace Go.Mx
open Go Go.Gx Go.Proofs Go.Shelf Go.RowKit
theorem zfr{G:Gh}{B:Nat}{h:zf}{w w':World}{v:AV}{u:Value}(hr:HR G B h w)(hb:Below w.heap.size w w')(hv:V G v u):zo5 G B w (.ret v h) (.returned u) w':=
 ⟨G,Step.grow hr hb.size hb.block hb.os hb.tape hb.output,u,hv,rfl⟩
section
variable {P:Program} {ρ:Ren} {hgl:zf} {Gg:Gh} {B:Nat} {W0:World}
def zqF(B:Nat)(W0:World)(g:Nat):Prop:=∀ w:World,(∀ b,b<B->w.heap[b]?=W0.heap[b]?)->∃ m,w.cell? ⟨g,0,none⟩=some (.int .i64 m)
def zmJ(B:Nat)(W0:World)(g:Nat):Prop:=∀ w:World,(∀ b,b<B->w.heap[b]?=W0.heap[b]?)->∃ ev,w.cell? ⟨g,0,none⟩=some ev/\(ev=.nilIface\/∃ te pe,ev=.iface te pe)
theorem Laid.cell(hL:Laid P hgl Gg B W0){g:Nat}(hg:g<P.globals.size){x:AV}(hb:hgl[g]?=some (.lay [x])):∃ u,V Gg x u/\∀ w:World,(∀ b,b<B->w.heap[b]?=W0.heap[b]?)->w.cell? ⟨g,0,none⟩=some u:=by
 obtain⟨r,e1,e2,e3,e4⟩:=hL.g g hg
 obtain⟨u,o1,hcell⟩:=zny hL.hr hb e1
 rw[e2,e4] at hcell
 have hlt:g<B:=e2 ▸ hL.low _ _ _ e1
 exact⟨u,o1,fun w hw=>by rw[<- hcell];simp only[World.cell?];rw[hw g hlt]⟩
theorem Laid.iv(hL:Laid P hgl Gg B W0){g:Nat}(hg:g<P.globals.size){lo hi:Int}(hb:hgl[g]?=some (.lay [.iv lo hi])):zqF B W0 g:=fun w hw=>by
 obtain⟨u,h1,h2⟩:=hL.cell hg hb
 cases h1
 exact⟨_,h2 w hw⟩
theorem Laid.opq(hL:Laid P hgl Gg B W0){g:Nat}(hg:g<P.globals.size)(hb:hgl[g]?=some (.lay [.opq])):zmJ B W0 g:=fun w hw=>by
 obtain⟨u,h1,h2⟩:=hL.cell hg hb
 cases h1
 exact⟨_,h2 w hw,.inr ⟨_,_,rfl⟩⟩
def zq3:Lib.NumEnd Nat->AV
 |.ok u=>.tup [.int .u64 u,.zcr]
 |Go.Lib.NumEnd.syntax=>.tup [.int .u64 0,.opq]
 |.range=>.tup [.int .u64 4294967295,.opq]
def zg8:List AV->zf->Option CR:=fun args h=>match args with
 | [.str s,.int .i64 m,.int .i64 n]=>if m=10/\n=32/\s.length<=281474976710656 then some (.ret (zq3 (Lib.parseUintB 32 s)) h) else none
 |_=>none
theorem zhu{G:Gh}{h:zf}{w w':World}{t:TypeId}{s:ByteArray}{v:AV}{u:Value}(hr:HR G B h w)(hw:w'=w\/w'=Lib.bytesWorld w t s)(hv:V G v u):zo5 G B w (.ret v h) (.returned u) w':=by
 rcases hw with rfl|rfl
 ·exact zfr hr (.refl _ _) hv
 ·exact zfr hr (Lib.bytesWorld_below _ _ _) hv
theorem zn6(L:LaysPu.n14 P ρ)(hg0:zmJ B W0 (ρ.g 0))(hg1:zmJ B W0 (ρ.g 1)){args:List AV}{h:zf}{r:CR}(hg:zg8 args h=some r):ziw P B W0 (ρ.f 14) args h r:=by
 intro G us w hx hr hgl
 unfold zg8 at hg
 split at hg
 ·rename_i s m n
  split at hg
  ·rename_i hc
   obtain⟨rfl,rfl,hs⟩:=hc
   cases hg
   cases hx with
   |cons x1 x2=>cases x2 with
    |cons x3 x4=>cases x4 with
     |cons x5 x6=>
      cases x6
      have k1:=zfc x1;have k2:=wW x3;have k3:=wW x5
      subst k1;subst k2;subst k3
      refine .inl ⟨?_,Go.Proofs.enters_of L.f14 (by kernel_rfl) rfl⟩
      rcases hp:Lib.parseUintB 32 s with u|_|_
      ·refine(Any.strconv_ParseUint_10_at32_ok L ⟨s.toArray⟩ (by show s.length<=_;omega) u hp w).mono fun e w' ⟨he,hw⟩=>?_
       subst he
       exact zhu hr hw (.tup (.cons (.int _ _) (.cons .zcr .nil)))
      ·obtain⟨ev,q1,q2⟩:=hg0 w hgl.low
       refine(Any.strconv_ParseUint_10_at32_syntax L ⟨s.toArray⟩ hs hp ev w q1 q2).mono fun e w' ⟨N,he,_,_,hw⟩=>?_
       subst he
       exact zfr hr hw (.tup (.cons (.int _ _) (.cons (.opq _ _) .nil)))
      ·obtain⟨ev,q1,q2⟩:=hg1 w hgl.low
       refine(Any.strconv_ParseUint_10_at32_range L ⟨s.toArray⟩ hs hp ev w q1 q2).mono fun e w' ⟨N,he,_,_,hw⟩=>?_
       subst he
       exact zfr hr hw (.tup (.cons (.int _ _) (.cons (.opq _ _) .nil)))
  ·cases hg
 ·cases hg
def jc(s sep:List UInt8):List (List UInt8):=(Lib.splitB ⟨sep.toArray⟩ 0 (Lib.countB ⟨s.toArray⟩ ⟨sep.toArray⟩) ⟨s.toArray⟩).map (·.data.toList)
def zgj(e:TypeId):List AV->zf->Option CR:=fun args h=>match args with
 | [.str s,.str sep]=>if 0<sep.length/\s.length<4294967281 then some (.ret (.sl h.length 0 (jc s sep).length 1 0 false) (zb8 h ((jc s sep).map .str) e)) else none
 |_=>none
theorem zoK(L:Lays.n146 P ρ)(hi9:(P.info? (ρ.t 9)).map (fun i=>(i.zero,i.size,i.bytes))=some (some (.string ByteArray.empty),1,16))(hm:zqF B W0 (ρ.g 1)){args:List AV}{h:zf}{r:CR}(hg:zgj (ρ.t 9) args h=some r):ziw P B W0 (ρ.f 146) args h r:=by
 intro G us w hx hr hgl
 unfold zgj at hg
 split at hg
 ·rename_i s sep
  ·split at hg
   ·rename_i hc
    obtain⟨c0,c1⟩:=hc
    cases hg
    cases hx with
    |cons x1 x2=>cases x2 with
     |cons x3 x4=>
      cases x4
      have k1:=zfc x1;have k2:=zfc x3
      subst k1;subst k2
      refine .inl ⟨?_,Go.Proofs.enters_of L.f146 (by kernel_rfl) rfl⟩
      obtain⟨m,hcell⟩:=hm w hgl.low
      ·have h1:1<=(⟨sep.toArray⟩:ByteArray).size:=c0
       have hlen:=Lib.splitB_all ⟨sep.toArray⟩ h1 0 _ ⟨s.toArray⟩ rfl
       refine(Any.strings_Split L hi9 ⟨s.toArray⟩ ⟨sep.toArray⟩ m w (by show s.length<_;omega) hcell h1).mono fun e w' ⟨he,hw⟩=>?_
       subst he
       have hln:(jc s sep).length=Lib.countB ⟨s.toArray⟩ ⟨sep.toArray⟩+1:=by unfold jc;rw[List.length_map,hlen]
       have hcl:Lib.countB ⟨s.toArray⟩ ⟨sep.toArray⟩<=s.length:=Lib.countB_le ⟨sep.toArray⟩ h1 (⟨s.toArray⟩:ByteArray).size ⟨s.toArray⟩ (Nat.le_refl _)
       have hvs:(Lib.splitB ⟨sep.toArray⟩ 0 (Lib.countB ⟨s.toArray⟩ ⟨sep.toArray⟩) ⟨s.toArray⟩).map Value.string=(jc s sep).map ze4:=by
        unfold jc
        rw[List.map_map]
        exact List.map_congr_left fun b _=>rfl
       rw[hvs] at hw
       have hvl:∀ {G:Gh} (l:List (List UInt8)),VL G (l.map .str) (l.map ze4):=fun {G} l=>by
        induction l with
        |nil=>exact .nil
        |cons x l ih=>exact .cons (.str _) ih
       have hS:=Step.newRow (c:=((jc s sep).map ze4).toArray) (T:=ρ.t 9) (w':=w.alloc (.cells ((jc s sep).map ze4).toArray (ρ.t 9))) hr (hvl (jc s sep))
        (fun p hp=>by simp)
        (heap_alloc_new w _) (by simp) (fun b hb=>(zds.alloc [] w _).block b hb (by simp)) rfl rfl rfl
       subst hw
       refine⟨_,hS,_,?_,rfl⟩
       rw[<- hr.len,<- hln]
       exact .sl (r:=⟨w.heap.size,0,((jc s sep).map AV.str).length,_,0⟩) (by rw[xR];rfl) (Nat.le_refl _) (by simp) (Nat.le_refl _) (by simp) (fun e=>by cases e) (fun _=>by simp) (by rw[hln];simp only[maxLen];omega) (by omega)
   ·cases hg
 ·cases hg
end
end Go.Mx
namespace Go.Sx
open Go Go.Gx Go.Mx
variable [j2]
def zlz(v:SV)(h:SH):Option (List UInt8):=match v with
 |.a (.str l)=>some l
 |v=>reads .u8 v h
theorem zjK(l:List UInt8):zaK (l.map fun b=>AV.int .u8 (b.toNat:Int))=some l:=zde l
theorem RCs.u8{h:zf}{Φ:Nat->Prop}:∀ {l:List UInt8} {cs:List AV},RCs h Φ .u8 l cs->cs=l.map fun b=>AV.int .u8 (b.toNat:Int):=by
 intro l cs q
 refine List.ext_getElem? fun i=>?_
 obtain⟨q1,q2⟩:=q
 have hl:cs.length=l.length:=by rw[q1];exact Nat.mul_one _
 rw[List.getElem?_map]
 cases hi:l[i]? with
 |none=>
  rw[List.getElem?_eq_none_iff] at hi
  rw[List.getElem?_eq_none_iff.2 (by omega)];rfl
 |some e=>
  have h1:=q2 i e hi
  have hlt:=(List.getElem?_eq_some_iff.1 hi).1
  have h2:part 1 cs i=[AV.int .u8 (e.toNat:Int)]:=h1
  rw[qz,Nat.mul_one,List.drop_eq_getElem_cons (by omega)] at h2
  simp only[List.take_succ_cons,List.take_zero,List.cons.injEq,and_true] at h2
  rw[List.getElem?_eq_getElem (by omega),h2];rfl
theorem zeT{X:Gst}(hr:RH X){v:SV}{x:AV}{l:List UInt8}(hv:RV X v x)(h:zlz v X.sh=some l):zeM X.h x=some l:=by
 unfold zlz at h
 split at h
 ·cases h;cases(show x=_ from hv);rfl
 ·rcases zc8 hr hv h with⟨rfl,rfl⟩|⟨m,off,ver,clip,cs,rfl,q1,q2⟩
  ·rfl
  ·have e:U.u8.sz=1:=rfl
   rw[e,Nat.mul_one] at q1
   rw[e]
   simp only[zeM,q1]
   rw[RCs.u8 q2]
   exact zjK l
def zld:CF:=fun R args h κ=>match args with
 | [v,.u8 c]=>match zlz v h with
  |some l=>κ (.ret (.a (.int .i64 (jm c l 0))) h)
  |none=>none
 |_=>none
def zm3:CF:=fun R args h κ=>match args with
 | [v,.u8 c]=>match zlz v h with
  |some l=>κ (.ret (.a (.int .i64 (Go.Lib.countByte l c))) h)
  |none=>none
 |_=>none
theorem zoX(c:UInt8):((c.toNat:Int).toNat).toUInt8=c:=by simp
section
variable {P:Program} {gl:GL} {hk:ja} {f:FuncId}
theorem zeG(h:hk f=some (mx .indexByte)):zgN P gl hk f zld:=by
 intro R args κ r X margs hc hargs hr hg
 unfold zld at hc
 split at hc
 ·rename_i v c
  obtain⟨x,t,rfl,q1,y,t2,rfl,q2,q3⟩:=hargs
  cases(show t2=[] from q3)
  cases(show y=_ from q2)
  split at hc
  ·rename_i l hl
   refine⟨_,X,.ret (.int .i64 (jm c l 0)) X.h,hc,.refl hr,⟨rfl,rfl,rfl⟩,Ev.all fun n=>?_⟩
   simp only[qV,h,mx,zeT hr q1 hl,zoX]
  ·cases hc
 ·cases hc
theorem ziF(h:hk f=some (mx .count)):zgN P gl hk f zm3:=by
 intro R args κ r X margs hc hargs hr hg
 unfold zm3 at hc
 split at hc
 ·rename_i v c
  obtain⟨x,t,rfl,q1,y,t2,rfl,q2,q3⟩:=hargs
  cases(show t2=[] from q3)
  cases(show y=_ from q2)
  split at hc
  ·rename_i l hl
   refine⟨_,X,.ret (.int .i64 (Go.Lib.countByte l c)) X.h,hc,.refl hr,⟨rfl,rfl,rfl⟩,Ev.all fun n=>?_⟩
   simp only[qV,h,mx,zeT hr q1 hl,zoX]
  ·cases hc
 ·cases hc
def zhS:Nat:=4294967280
def zn4{R:Type}(p:Go.Lib.NumEnd Nat)(a:Int->R)(b c:R):R:=match p with
 |.ok u=>a (u:Int)
 |Go.Lib.NumEnd.syntax=>b
 |.range=>c
def zl7:Nat:=281474976710656
def zn5:CF:=fun R args h κ=>match args with
 | [.a (.str s),.a (.int .i64 m),.a (.int .i64 n)]=>match decide (m=10),decide (n=32) with
  |true,true=>cond (Nat.ble s.length zl7) (zn4 (Go.Lib.parseUintB 32 s) (fun u=>κ (.ret (.tup [.a (.int .u64 u),.a .zcr]) h)) (κ (.ret (.tup [.a (.int .u64 0),.a .opq]) h)) (κ (.ret (.tup [.a (.int .u64 4294967295),.a .opq]) h))) none
  |_,_=>none
 |_=>none
def zoJ:CF:=fun R args h κ=>match args with
 | [.a (.str s),.a (.str sep)]=>cond (Nat.blt 0 sep.length&&Nat.ble s.length zhS) (κ (.ret (.gs h.length 0) (h++[.seq .str (jc s sep) 0 0]))) none
 |_=>none
section
variable {g g0 g1:Nat} {cs:List AV}
theorem zjq(h:hk f=some zg8):zgN P gl hk f zn5:=by
 intro R args κ r X margs hc hargs hr hg
 unfold zn5 at hc
 split at hc
 ·rename_i s m n
  obtain⟨x,t,rfl,q1,y,t2,rfl,q2,z,t3,rfl,q3,q4⟩:=hargs
  cases(show t3=[] from q4)
  cases(show x=_ from q1);cases(show y=_ from q2);cases(show z=_ from q3)
  split at hc
  ·rename_i e1 e2
   have e1:=of_decide_eq_true e1
   have e2:=of_decide_eq_true e2
   subst e1;subst e2
   cases hb:Nat.ble s.length zl7 with
   |false=>rw[hb] at hc;cases hc
   |true=>
    rw[hb] at hc
    have k1:=Nat.le_of_ble_eq_true hb
    unfold zl7 at k1
    have hm:∀ n,qV P hk (qF P hk n) (.f f) [.str s,.int .i64 10,.int .i64 32] X.h=some (.ret (zq3 (Go.Lib.parseUintB 32 s)) X.h):=fun n=>by
     simp [qV,h,zg8,k1]
    simp only[cond_true] at hc
    rcases hp:Go.Lib.parseUintB 32 s with u|_|_
    ·rw[hp] at hc
     exact⟨_,X,.ret (.tup [.int .u64 (u:Int),.zcr]) X.h,hc,.refl hr,⟨rfl,rfl,_,rfl,_,_,rfl,rfl,_,_,rfl,rfl,rfl⟩,Ev.all fun n=>by rw[hm n,hp];rfl⟩
    ·rw[hp] at hc
     exact⟨_,X,.ret (.tup [.int .u64 0,.opq]) X.h,hc,.refl hr,⟨rfl,rfl,_,rfl,_,_,rfl,rfl,_,_,rfl,rfl,rfl⟩,Ev.all fun n=>by rw[hm n,hp];rfl⟩
    ·rw[hp] at hc
     exact⟨_,X,.ret (.tup [.int .u64 4294967295,.opq]) X.h,hc,.refl hr,⟨rfl,rfl,_,rfl,_,_,rfl,rfl,_,_,rfl,rfl,rfl⟩,Ev.all fun n=>by rw[hm n,hp];rfl⟩
  ·cases hc
 ·cases hc
theorem RCs.zsc{h:zf}{Φ:Nat->Prop}(l:List (List UInt8)):RCs h Φ .str l (l.map AV.str):=by
 refine⟨by simp [U.sz],fun i e hi=>?_⟩
 have hi':(l.map AV.str)[i]?=some (AV.str e):=by rw[List.getElem?_map,hi];rfl
 obtain⟨hlt,e2⟩:=List.getElem?_eq_some_iff.1 hi'
 rw[qz,show i*U.str.sz=i from Nat.mul_one i,show U.str.sz=1 from rfl,List.drop_eq_getElem_cons hlt,e2];rfl
theorem zjE{e:TypeId}(h:hk f=some (zgj e)):zgN P gl hk f zoJ:=by
 intro R args κ r X margs hc hargs hr hg
 unfold zoJ at hc
 split at hc
 ·rename_i s sep
  obtain⟨x,t,rfl,q1,y,t2,rfl,q2,q3⟩:=hargs
  cases(show t2=[] from q3)
  cases(show x=_ from q1);cases(show y=_ from q2)
  cases hb:(Nat.blt 0 sep.length&&Nat.ble s.length zhS) with
  |false=>rw[hb] at hc;cases hc
  |true=>
   rw[hb] at hc
   rw[Bool.and_eq_true] at hb
   have k1:=Nat.le_of_ble_eq_true hb.1
   have k2:=Nat.le_of_ble_eq_true hb.2
   unfold zhS at k2
   obtain⟨Y,h5,h6,h7,h8⟩:=zcs hr (u:=.str) (l:=jc s sep) (tt:=some e) (hc:=RCs.zsc _)
   refine⟨_,Y,.ret (.sl X.h.length 0 (jc s sep).length 1 0 false) (zb8 X.h ((jc s sep).map .str) e),hc,h5,⟨h6,h7,h8⟩,Ev.all fun n=>?_⟩
   simp only[qV,h,zgj]
   rw[if_pos ⟨by omega,by omega⟩]
 ·cases hc
end
end
end Go.Sx
namespace Go.Mx
open Go Go.Gx

end Go.Mx
namespace Go.Sx
open Go Go.Gx Go.Mx
variable [j2]
section
variable (P:Program) (gl:GL) (ct:CT) {R:Type}
end
section
variable {P:Program} {gl:GL} {ct:CT} {hk:ja} {q:FuncId->Bool} {l:List Oper} {env0:Arr AV} {X0 X:Gst} {recs:List Rec} {env:List SV} {h:SH} {me:Arr AV}
end
section
variable {P:Program} {gl:GL} {ct:CT} {hk:ja}
end
section
variable {P:Program} {gl:GL} {hk:ja} {al:List FuncId} (hh:zo6 P hk al) {T:FT} (hT:zjP P gl hk T)
include hh hT
end
end Go.Sx
namespace Go.Sx
open Go Go.Gx Go.Mx
variable [j2]
def zag:Code->Bool
 |.skip|.label _|.ret|.exit _|.region _ _ _=>true
 |.seq a b=>zag a&&zag b
 |.cond _ a b=>zag a&&zag b
 |.block _ c=>zag c
 |.loop c=>zag c
 |_=>false
def kR(st:St)(d:List Dfd):St:=⟨st.env,st.h,st.dl++d,st.rnd⟩
def zlP:OR->List Dfd->OR
 |.ok env h mk,d=>.ok env h (mk++d)
 |.pan v env h mk,d=>.pan v env h (mk++d)
theorem zge{h:zf}{mk d:List Dfd}{o:Option (Arr AV)}{r:OR}(q:zhg h mk o=some r):zhg h (mk++d) o=some (zlP r d):=by
 cases o with
 |none=>cases q
 |some env=>cases q;rfl
theorem zpE{call:Cal->List AV->zf->Option CR}{dst:Option Nat}{env:Arr AV}{h:zf}{mk d:List Dfd}{rnd:Option Nat}{r:OR}{q:Rs}(k:za6 call dst env h mk rnd q=some r):za6 call dst env h (mk++d) rnd q=some (zlP r d):=by
 cases q with
 |val v h'=>exact zge k
 |unit h'=>exact zge k
 |call f args=>
  simp only[za6] at k |-
  split at k
  ·exact zge k
  ·cases k;rfl
  ·cases k
 |dfr f args cap=>
  simp only[za6] at k |-
  split at k
  ·exact zge (d:=d) k
  ·cases k
theorem zpG{P:Program}{call:Cal->List AV->zf->Option CR}{o:Oper}{env:Arr AV}{h:zf}{mk d:List Dfd}{rnd:Option Nat}{r:OR}(k:xy P call o env h mk rnd=some r):xy P call o env h (mk++d) rnd=some (zlP r d):=by
 unfold xy at k |-
 split at k
 ·split at k
  ·cases k;rfl
  ·cases k
 ·split at k
  ·exact zpE k
  ·cases k
theorem zku{P:Program}{call:Cal->List AV->zf->Option CR}{ops:Array Oper}{rnd:Option Nat}{d:List Dfd}:∀ {l:List Oper} {env:Arr AV} {h:zf} {mk:List Dfd} {r:OR},zbH P call ops rnd l env h mk=some r->zbH P call ops rnd l env h (mk++d)=some (zlP r d)
 | [],env,h,mk,r,k=>by cases k;rfl
 |o::l,env,h,mk,r,k=>by
  simp only[zbH] at k |-
  cases hw:want ops o env with
  |true=>
   simp only[hw] at k |-
   cases he:xy P call o env h mk rnd with
   |none=>rw[he] at k;cases k
   |some q=>
    rw[he] at k
    rw[zpG he]
    cases q with
    |ok env' h' mk'=>exact zku k
    |pan v env' h' mk'=>cases k;rfl
  |false=>
   simp only[hw] at k |-
   split at k
   ·exact zku k
   ·cases k
theorem znY{rnd:Option Nat}{o:Option OR}{d:List Dfd}{e:Ex}{st:St}(k:zgG rnd o=some (e,st)):zgG rnd (o.map fun r=>zlP r d)=some (e,kR st d):=by
 cases o with
 |none=>cases k
 |some r=>cases r<;>cases k<;>rfl
theorem znJ{P:Program}{q:FuncId->Bool}{call:Cal->List AV->zf->Option CR}{ops:List Oper}{env:Arr AV}{h:zf}{mk d:List Dfd}{r:OR}(k:kg P q call ops env h mk=some r):kg P q call ops env h (mk++d)=some (zlP r d):=by
 unfold kg at k |-
 split at k
 ·unfold zel at k |-
  split at k
  ·cases k
  ·split at k
   ·exact zge k
   ·cases k
 ·cases k
theorem zpI{p:Option Code}{st st':St}{e:Ex}{d:List Dfd}(k:zjb p st=some (e,st')):zjb p (kR st d)=some (e,kR st' d):=by
 unfold zjb at k |-
 split at k<;>first|(cases k;rfl)|cases k
theorem zeN{l:Nat}{env:Arr AV}{dl d:List Dfd}{rnd:Option Nat}{o:Option CR}{e:Ex}{st:St}(k:j7 l env dl rnd o=some (e,st)):j7 l env (dl++d) rnd o=some (e,kR st d):=by
 unfold j7 at k |-
 split at k
 ·split at k
  ·split at k
   ·cases k
   ·exact zpI k
  ·cases k
 ·cases k;rfl
 ·cases k
theorem znS{P:Program}{call:Cal->List AV->zf->Option CR}{g:Operand}{ps:Array Tmp}{asg body:Code}{st st':St}{e:Ex}{d:List Dfd}(k:zf4 P call g ps asg body st=some (e,st')):zf4 P call g ps asg body (kR st d)=some (e,kR st' d):=by
 obtain⟨env,h,dl,rnd⟩:=st
 unfold zf4 at k |-
 simp only[kR] at k |-
 split at k
 ·split at k
  ·rename_i hc
   rw[if_pos hc]
   split at k
   ·exact zeN (d:=d) k
   ·split at k
    ·exact zeN (d:=d) k
    ·cases k
  ·cases k
 ·cases k
theorem zpD{P:Program}{qs:FuncId->Bool}{run:Code->St->Option (Ex×St)}{call:Cal->List AV->zf->Option CR}(ih:∀ (c:Code) (st:St) (e:Ex) (st':St),run c st=some (e,st')->∀ d,run c (kR st d)=some (e,kR st' d))(c:Code)(st:St)(e:Ex)(st':St)(h:z6 P qs run call c st=some (e,st'))(d:List Dfd):z6 P qs run call c (kR st d)=some (e,kR st' d):=by
 cases c with
 |skip=>cases h;rfl
 |label=>cases h;rfl
 |ret=>cases h;rfl
 |exit=>cases h;rfl
 |region id ops b=>
  cases b with
  |false=>
   show zgG st.rnd (zbH P call ops st.rnd ops.toList st.env st.h (st.dl++d))=_
   have h:zgG st.rnd (zbH P call ops st.rnd ops.toList st.env st.h st.dl)=some (e,st'):=h
   cases ho:zbH P call ops st.rnd ops.toList st.env st.h st.dl with
   |none=>rw[ho] at h;cases h
   |some r=>rw[ho] at h;rw[zku ho];exact znY (d:=d) h
  |true=>
   show zgG st.rnd (kg P (zfg P qs ops.toList) call ops.toList st.env st.h (st.dl++d))=_
   have h:zgG st.rnd (kg P (zfg P qs ops.toList) call ops.toList st.env st.h st.dl)=some (e,st'):=h
   cases ho:kg P (zfg P qs ops.toList) call ops.toList st.env st.h st.dl with
   |none=>rw[ho] at h;cases h
   |some r=>rw[ho] at h;rw[znJ ho];exact znY (d:=d) h
 |seq a b=>
  simp only[z6] at h |-
  cases hr:run a st with
  |none=>rw[hr] at h;cases h
  |some p=>
   obtain⟨e1,st1⟩:=p
   rw[hr] at h
   rw[ih a st e1 st1 hr d]
   cases e1 with
   |normal=>exact ih b st1 e st' h d
   |_=>cases h;rfl
 |cond o a b=>
  simp only[z6] at h |-
  show(match mev P st.env st.h o with|some (.bool true)=>run a (kR st d)|some (.bool false)=>run b (kR st d)|_=>none)=_
  split at h
  ·rename_i hv;rw[hv];exact ih a st e st' h d
  ·rename_i hv;rw[hv];exact ih b st e st' h d
  ·cases h
 |block id a=>
  simp only[z6] at h |-
  cases hr:run a st with
  |none=>rw[hr] at h;cases h
  |some p=>
   obtain⟨e1,st1⟩:=p
   rw[hr] at h
   rw[ih a st e1 st1 hr d]
   cases e1 with
   |exit j=>
    simp only at h |-
    split at h
    ·rename_i hj;rw[if_pos hj];cases h;rfl
    ·rename_i hj;rw[if_neg hj];cases h;rfl
   |_=>cases h;rfl
 |loop a=>
  simp only[z6] at h |-
  cases hr:run a st with
  |none=>rw[hr] at h;cases h
  |some p=>
   obtain⟨e1,st1⟩:=p
   rw[hr] at h
   rw[ih a st e1 st1 hr d]
   cases e1 with
   |normal=>exact ih (.loop a) st1 e st' h d
   |_=>cases h;rfl
 |rangeFunc=>exact znS h
 |_=>cases h
theorem znT{P:Program}{hk:ja}:∀ (n:Nat) (c:Code) (st:St) (e:Ex) (st':St),qF P hk n c st=some (e,st')->∀ d,qF P hk n c (kR st d)=some (e,kR st' d)
 |0,c,st,e,st',h,d=>by cases h
 |n+1,c,st,e,st',h,d=>zpD (znT n) c st e st' h d
theorem zc4{P:Program}{call:Cal->List AV->zf->Option CR}{ops:Array Oper}{rnd:Option Nat}{l2:List Oper}:∀ {l1:List Oper} {env:Arr AV} {h:zf} {mk:List Dfd},zbH P call ops rnd (l1++l2) env h mk=match zbH P call ops rnd l1 env h mk with
  |some (.ok env' h' mk')=>zbH P call ops rnd l2 env' h' mk'
  |r=>r
 | [],env,h,mk=>rfl
 |o::l,env,h,mk=>by
  simp only[List.cons_append,zbH]
  cases want ops o env with
  |true=>
   simp only
   cases hx:xy P call o env h mk rnd with
   |none=>rfl
   |some r=>cases r with
    |ok a b c=>exact zc4
    |pan=>rfl
  |false=>
   simp only
   cases hx:zgL env o.dst .undef with
   |none=>rfl
   |some e=>exact zc4
inductive SPn where
 |no|up (v:SV)|re (v:SV)
def SPn.settle:SPn->SPn
 |.re _=>.no
 |p=>p
def SPn.got:SPn->SV
 |.up v=>v
 |_=>.a .zcr
def SPn.zdv:SPn->SPn
 |.up v=>.re v
 |p=>p
def PnR(X:Gst):SPn->Pn->Prop
 |.no,.no=>True
 |.up v,.up x=>RV X v x
 |.re v,.re x=>RV X v x
 |_,_=>False
theorem PnR.le{X Y:Gst}(hl:X.le Y):∀ {p:SPn} {q:Pn},PnR X p q->PnR Y p q
 |.no,.no,_=>trivial
 |.up _,.up _,h=>RV.le hl h
 |.re _,.re _,h=>RV.le hl h
theorem PnR.got{X:Gst}:∀ {p:SPn} {q:Pn},PnR X p q->RV X p.got q.got
 |.no,.no,_=>rfl
 |.up _,.up _,h=>h
 |.re _,.re _,_=>rfl
theorem PnR.zdv{X:Gst}:∀ {p:SPn} {q:Pn},PnR X p q->PnR X p.zdv q.zdv
 |.no,.no,_=>trivial
 |.up _,.up _,h=>h
 |.re _,.re _,h=>h
theorem PnR.settle{X:Gst}:∀ {p:SPn} {q:Pn},PnR X p q->PnR X p.settle q.settle
 |.no,.no,_=>trivial
 |.up _,.up _,h=>h
 |.re _,.re _,_=>trivial
abbrev SDd:=FuncId×List SV×List SV
def DdR(X:Gst):Option SDd->List Dfd->Prop
 |none,l=>l=[]
 |some (f,a,c),l=>∃ a' c',l=[.call f a' c']/\RVs X a a'/\RVs X c c'
theorem DdR.le{X Y:Gst}(hl:X.le Y):∀ {d:Option SDd} {l:List Dfd},DdR X d l->DdR Y d l
 |none,_,h=>h
 |some _,_,⟨a',c',h1,h2,h3⟩=>⟨a',c',h1,RVs.le hl h2,RVs.le hl h3⟩
def zj1(ops:List Oper):Option (List Oper×Oper):=match ops.getLast? with
 |some o=>match o.op,o.guard with
  |.defer _,none=>some (ops.dropLast,o)
  |_,_=>none
 |none=>none
theorem ziH{ops l:List Oper}{o:Oper}(h:zj1 ops=some (l,o)):ops=l++[o]/\o.guard=none/\∃ c,o.op=.defer c:=by
 unfold zj1 at h
 split at h
 ·rename_i o' ho
  split at h
  ·rename_i c h1 h2
   cases h
   refine⟨?_,h2,c,h1⟩
   obtain⟨ys,rfl⟩:=List.getLast?_eq_some_iff.1 ho
   simp
  ·cases h
 ·cases h
section
variable (P:Program) (gl:GL) (ct:CT) {R:Type}
def sdf(n:Nat):Pl->Code->SS->(Option SDd->SX->SS->Option R)->Option R
 |pl,.seq a b,st,K=>sdf n pl.l a st fun d e st'=>match e with
  |.normal=>match d with
   |none=>sdf n pl.r b st' K
   |some d=>wY P gl ct n pl.r b st' fun e s=>K (some d) e s
  |e=>K d e st'
 |pl,.region id ops false,st,K=>match zj1 ops.toList with
  |some (l,o)=>ziu P gl ct n pl ops 0 l st fun e st'=>match e with
   |.normal=>match sop P gl (sev gl st'.env) st'.h o.op with
    | [(true,.dfr f args cap)]=>match wZ st'.env o.dst (.tup []) with
     |some env=>K (some (f,args,cap)) .normal ⟨env,st'.h⟩
     |none=>none
    |_=>none
   |e=>K none e st'
  |none=>wY P gl ct n pl (.region id ops false) st fun e st'=>K none e st'
 |pl,c,st,K=>wY P gl ct n pl c st fun e st'=>K none e st'
def sdc(n:Nat):Pl->Code->SS->SPn->(SX->SS->SPn->Option R)->Option R
 |pl,.seq a b,st,pn,K=>sdc n pl.l a st pn fun e st' pn'=>match e with
  |.normal=>sdc n pl.r b st' pn' K
  |e=>K e st' pn'
 |pl,.region id ops false,st,pn,K=>match ops.toList with
  | [o]=>match isRec o with
   |true=>match wZ st.env o.dst pn.got with
    |some env=>K .normal ⟨env,st.h⟩ pn.zdv
    |none=>none
   |false=>wY P gl ct n pl (.region id ops false) st fun e st'=>K e st' pn
  |_=>wY P gl ct n pl (.region id ops false) st fun e st'=>K e st' pn
 |pl,c,st,pn,K=>wY P gl ct n pl c st fun e st'=>K e st' pn
def zri(n:Nat)(f:FuncId)(args:List SV)(h:SH)(pn:SPn)(K:SH->SPn->Option R):Option R:=match P.funcs[f]? with
 |some fn=>match fn.body with
  |some c=>match Nat.ble args.length fn.ntmps&&zag c with
   |true=>sdc P gl ct n .auto c ⟨args++List.replicate (fn.ntmps-args.length) (.tup []),h⟩ pn fun e st pn'=>match e with
    |.panic _=>none
    |.exit _=>none
    |_=>match zpb P gl st.env st.h fn.results.toList with
     |some _=>K st.h pn'.settle
     |none=>none
   |false=>none
  |none=>none
 |none=>none
def zt2(fn:Func)(env:List SV)(κ:SC->Option R)(h:SH)(pn:SPn):Option R:=match pn with
 |.no=>match zpb P gl env h fn.results.toList with
  |some vs=>κ (.ret (zlw vs) h)
  |none=>none
 |.up v=>κ (.pan v h)
 |.re _=>none
def zwz:SX->Option SPn
 |.panic v=>some (.up v)
 |.exit _=>none
 |_=>some .no
def zsx(n:Nat)(pl:Pl)(f:FuncId)(args:List SV)(h:SH)(κ:SC->Option R):Option R:=match ct f with
 |some _=>none
 |none=>match P.funcs[f]? with
  |some fn=>match fn.body with
   |some c=>match Nat.ble args.length fn.ntmps&&zag c with
    |true=>sdf P gl ct n pl c ⟨args++List.replicate (fn.ntmps-args.length) (.tup []),h⟩ fun d e st=>match zwz e with
     |none=>none
     |some pn=>match d with
      |none=>zt2 P gl fn st.env κ st.h pn
      |some (f',a',c')=>zri P gl ct n f' (a'++c') st.h pn fun h2 pn2=>zt2 P gl fn st.env κ h2 pn2
    |false=>none
   |none=>none
  |none=>none
end
section
variable {P:Program} {gl:GL} {ct:CT} {hk:ja}
def ziS(d:Dfd):Prop:=∃ f a c,d=.call f a c
def zsJ:OR->List Dfd
 |.ok _ _ mk=>mk
 |.pan _ _ _ mk=>mk
theorem zkp{call:Cal->List AV->zf->Option CR}{dst:Option Nat}{env:Arr AV}{h:zf}{mk:List Dfd}{rnd:Option Nat}{r:OR}{q:Rs}(k:za6 call dst env h mk rnd q=some r):∀ d ∈ zsJ r,d ∈ mk\/ziS d:=by
 have so:∀ {h' mk'} {o:Option (Arr AV)},zhg h' mk' o=some r->zsJ r=mk':=fun {h' mk' o} q=>by cases o<;>cases q;rfl
 cases q with
 |val v h'=>rw[so k];exact fun d hd=>.inl hd
 |unit h'=>rw[so k];exact fun d hd=>.inl hd
 |call f args=>
  simp only[za6] at k
  split at k
  ·rw[so k];exact fun d hd=>.inl hd
  ·cases k;exact fun d hd=>.inl hd
  ·cases k
 |dfr f args cap=>
  simp only[za6] at k
  split at k
  ·rw[so k];exact fun d hd=>(List.mem_cons.1 hd).elim (fun e=>.inr ⟨_,_,_,e⟩) .inl
  ·cases k
theorem zco{P:Program}{call:Cal->List AV->zf->Option CR}{ops:Array Oper}{rnd:Option Nat}:∀ {l:List Oper} {env:Arr AV} {h:zf} {mk:List Dfd} {r:OR},zbH P call ops rnd l env h mk=some r->∀ d ∈ zsJ r,d ∈ mk\/ziS d
 | [],env,h,mk,r,k=>by cases k;exact fun d hd=>.inl hd
 |o::l,env,h,mk,r,k=>by
  simp only[zbH] at k
  cases hw:want ops o env with
  |true=>
   simp only[hw] at k
   have hx:∀ r',xy P call o env h mk rnd=some r'->∀ d ∈ zsJ r',d ∈ mk\/ziS d:=fun r' q=>by
    unfold xy at q
    split at q
    ·split at q
     ·cases q;exact fun d hd=>.inl hd
     ·cases q
    ·split at q
     ·exact zkp q
     ·cases q
   cases he:xy P call o env h mk rnd with
   |none=>rw[he] at k;cases k
   |some r'=>
    rw[he] at k
    cases r' with
    |ok e1 h1 mk1=>exact fun d hd=>(zco (l:=l) k d hd).elim (fun q=>hx _ he d q) .inr
    |pan v e1 h1 mk1=>cases k;exact hx _ he
  |false=>
   simp only[hw] at k
   split at k
   ·exact zco (l:=l) k
   ·cases k
theorem zg5{P:Program}{hk:ja}:∀ (n:Nat) (c:Code) (st:St) (e:Ex) (st':St),qF P hk n c st=some (e,st')->zag c=true->∀ d ∈ st'.dl,d ∈ st.dl\/ziS d
 |0,c,st,e,st',h,_=>by cases h
 |n+1,c,st,e,st',h,hn=>by
  have ih:=zg5 (P:=P) (hk:=hk) n
  have two:∀ {a b:Code} {e1 e2:Ex} {s1 s2 s3:St},qF P hk n a s1=some (e1,s2)->zag a=true->qF P hk n b s2=some (e2,s3)->zag b=true->∀ d ∈ s3.dl,d ∈ s1.dl\/ziS d:=
   fun q1 n1 q2 n2 d hd=>(ih _ _ _ _ q2 n2 d hd).elim (fun q=>ih _ _ _ _ q1 n1 d q) .inr
  simp only[qF] at h
  cases c with
  |skip=>cases h;exact fun d hd=>.inl hd
  |label=>cases h;exact fun d hd=>.inl hd
  |ret=>cases h;exact fun d hd=>.inl hd
  |exit=>cases h;exact fun d hd=>.inl hd
  |region id ops b=>
   cases b with
   |false=>
    simp only[z6] at h
    cases hm:zbH P (qV P hk (qF P hk n)) ops st.rnd ops.toList st.env st.h st.dl with
    |none=>rw[hm] at h;cases h
    |some r=>
     rw[hm] at h
     have:=zco hm
     cases r<;>(cases h;exact this)
   |true=>
    simp only[z6] at h
    cases hm:kg P (zfg P (qfn P hk 4) ops.toList) (qV P hk (qF P hk n)) ops.toList st.env st.h st.dl with
    |none=>rw[hm] at h;cases h
    |some r=>
     rw[hm] at h
     have:zsJ r=st.dl:=by
      unfold kg at hm
      split at hm
      ·unfold zel at hm
       split at hm
       ·cases hm
       ·split at hm
        ·generalize zqR _ _ _=o at hm
         cases o<;>cases hm;rfl
        ·cases hm
      ·cases hm
     cases r<;>(cases h;exact fun d hd=>.inl (by rw[<- this];exact hd))
  |seq a b=>
   simp only[zag,Bool.and_eq_true] at hn
   simp only[z6] at h
   cases ha:qF P hk n a st with
   |none=>rw[ha] at h;cases h
   |some x=>
    obtain⟨e1,s1⟩:=x
    rw[ha] at h
    cases e1 with
    |normal=>exact two ha hn.1 h hn.2
    |_=>cases h;exact ih _ _ _ _ ha hn.1
  |cond x a b=>
   simp only[zag,Bool.and_eq_true] at hn
   simp only[z6] at h
   split at h
   ·exact ih _ _ _ _ h hn.1
   ·exact ih _ _ _ _ h hn.2
   ·cases h
  |block id a=>
   simp only[zag] at hn
   simp only[z6] at h
   cases ha:qF P hk n a st with
   |none=>rw[ha] at h;cases h
   |some x=>
    obtain⟨e1,s1⟩:=x
    rw[ha] at h
    have q:=ih _ _ _ _ ha hn
    cases e1 with
    |exit i=>
     simp only at h
     split at h<;>(cases h;exact q)
    |_=>cases h;exact q
  |loop a=>
   have hn':zag a=true:=hn
   simp only[z6] at h
   cases ha:qF P hk n a st with
   |none=>rw[ha] at h;cases h
   |some x=>
    obtain⟨e1,s1⟩:=x
    rw[ha] at h
    cases e1 with
    |normal=>exact two ha hn' h hn
    |_=>cases h;exact ih _ _ _ _ ha hn'
  |_=>cases hn
theorem zh4{P:Program}{hk:ja}{k:Nat×Option Nat}{X:Gst}{st:SS}{ms ms':St}{c:Code}{e:Ex}(h:StR k X st ms')(h0:ms.dl=[])(hn:zag c=true)(hr:Ev fun n=>qF P hk n c ms=some (e,ms')):ms'.dl=[]:=by
 obtain⟨n,hr⟩:=hr
 have q:=zg5 n c ms e ms' (hr n (Nat.le_refl _)) hn
 cases hd:ms'.dl with
 |nil=>rfl
 |cons d l=>
  rw[hd] at q
  obtain⟨m,e1,_⟩:=h.dk.dl d (by rw[hd];exact List.mem_cons_self)
  rcases q d List.mem_cons_self with q|⟨f,a,c,q⟩
  ·rw[h0] at q;cases q
  ·rw[e1] at q;cases q
theorem zn3{X:Gst}{args:List SV}{margs:List AV}(h:RVs X args margs)(k:Nat):RVs X (args++List.replicate (k-args.length) (.tup [])) (Arr.of (margs++List.replicate (k-margs.length) AV.undef)).toL:=by
 rw[Arr.zlK,h.length]
 refine h.append ?_
 generalize k-args.length=k
 induction k with
 |zero=>rfl
 |succ k ih=>exact⟨_,_,rfl,⟨[],rfl,rfl⟩,ih⟩
theorem ExR.ne{X:Gst}{e:SX}{me:Ex}(h:ExR X e me)(he:e≠.normal):me≠.normal:=by
 cases e<;>cases me<;>first|exact absurd rfl he|(intro hh;cases hh;done)|(cases h;done)
theorem zow{k0:Nat×Option Nat}(hct:zmD P gl ct hk)(n:Nat){R:Type}:∀ (c:Code) (pl:Pl),wH P gl hk pl c->zag c=true->∀ (st:SS) (pn:SPn) (K:SX->SS->SPn->Option R) (r:R) (X:Gst) (ms:St) (mpn:Pn),sdc P gl ct n pl c st pn K=some r->StR k0 X st ms->ms.dl=[]->RH X->RGl P gl X->PnR X pn mpn ->
  ∃ e st' pn' Y me ms' mpn',K e st' pn'=some r/\Stp X Y/\StR k0 Y st' ms'/\ms'.dl=[]/\ExR Y e me/\PnR Y pn' mpn'/\Ev fun m=>mdc (qF P hk m) c ms mpn=some (me,ms',mpn'):=by
 have base:∀ (c:Code) (pl:Pl),wH P gl hk pl c->zag c=true->∀ (st:SS) (pn:SPn) (K:SX->SS->SPn->Option R) (r:R) (X:Gst) (ms:St) (mpn:Pn),(∀ m,mdc (qF P hk m) c ms mpn=zd3 mpn (qF P hk m c ms))->wY P gl ct n pl c st (fun e st'=>K e st' pn)=some r->StR k0 X st ms->ms.dl=[]->RH X->RGl P gl X->PnR X pn mpn ->
   ∃ e st' pn' Y me ms' mpn',K e st' pn'=some r/\Stp X Y/\StR k0 Y st' ms'/\ms'.dl=[]/\ExR Y e me/\PnR Y pn' mpn'/\Ev fun m=>mdc (qF P hk m) c ms mpn=some (me,ms',mpn'):=by
  intro c pl hpl hn st pn K r X ms mpn hm h hst h0 hr hg hp
  obtain⟨e,st',Y,me,ms',h1,S1,hs1,he1,ev1⟩:=(zcd hct n).1 pl c hpl k0 _ _ _ _ X ms h hst hr hg
  exact⟨e,st',pn,Y,me,ms',mpn,h1,S1,hs1,zh4 hs1 h0 hn ev1,he1,hp.le S1.le,ev1.mono fun m p=>by rw[hm,p];rfl⟩
 intro c
 induction c with
 |seq a b iha ihb=>
  intro pl hpl hn st pn K r X ms mpn h hst h0 hr hg hp
  obtain⟨ha,hb⟩:=hpl.l2
  simp only[zag,Bool.and_eq_true] at hn
  simp only[sdc] at h
  obtain⟨e,st',pn',Y,me,ms',mpn',h1,S1,hs1,d1,he1,hp1,ev1⟩:=iha _ ha hn.1 st pn _ r X ms mpn h hst h0 hr hg hp
  cases e with
  |normal=>
   cases me<;>first|cases he1|skip
   obtain⟨e2,st2,pn2,Z,me2,ms2,mpn2,h2,S2,hs2,d2,he2,hp2,ev2⟩:=ihb _ hb hn.2 st' pn' K r Y ms' mpn' h1 hs1 d1 S1.hr (hg.le S1.le) hp1
   exact⟨e2,st2,pn2,Z,me2,ms2,mpn2,h2,S1.trans S2,hs2,d2,he2,hp2,(ev1.and ev2).mono fun m ⟨p,q⟩=>by simp only[mdc,p,q]⟩
  |_=>
   have hme:=he1.ne (by simp)
   refine⟨_,st',pn',Y,me,ms',mpn',h1,S1,hs1,d1,he1,hp1,ev1.mono fun m p=>?_⟩
   simp only[mdc,p]
   cases me<;>first|rfl|exact absurd rfl hme
 |region id ops b=>
  cases b with
  |true=>
   intro pl hpl hn st pn K r X ms mpn h hst h0 hr hg hp
   exact base _ pl hpl hn st pn K r X ms mpn (fun m=>rfl) h hst h0 hr hg hp
  |false=>
   intro pl hpl hn st pn K r X ms mpn h hst h0 hr hg hp
   simp only[sdc] at h
   split at h
   ·rename_i o ho
    split at h
    ·rename_i hrec
     split at h
     ·rename_i env he
      obtain⟨me',h1,h2⟩:=zbb hst.env hp.got he
      exact⟨.normal,⟨env,st.h⟩,pn.zdv,X,.normal,⟨me',ms.h,ms.dl,ms.rnd⟩,mpn.zdv,h,.refl hr,⟨h2,hst.sh,hst.h,hst.dk⟩,h0,trivial,hp.zdv,Ev.all fun m=>by simp only[mdc,ho,hrec,h1]⟩
     ·cases h
    ·rename_i hrec
     exact base _ pl hpl hn st pn K r X ms mpn (fun m=>by simp only[mdc,ho,hrec]) h hst h0 hr hg hp
   ·rename_i hno
    refine base _ pl hpl hn st pn K r X ms mpn (fun m=>?_) h hst h0 hr hg hp
    simp only[mdc]
 |_=>
  intro pl hpl hn st pn K r X ms mpn h hst h0 hr hg hp
  exact base _ pl hpl hn st pn K r X ms mpn (fun m=>rfl) h hst h0 hr hg hp
theorem zox{b0:Nat}(hct:zmD P gl ct hk)(n:Nat){R:Type}:∀ (c:Code) (pl:Pl),wH P gl hk pl c->zag c=true->∀ (st:SS) (K:Option SDd->SX->SS->Option R) (r:R) (X:Gst) (ms:St),sdf P gl ct n pl c st K=some r->StR (b0,none) X st ms->ms.dl=[]->RH X->RGl P gl X ->
  ∃ d e st' Y me ms' dl,K d e st'=some r/\Stp X Y/\StR (b0,none) Y st' ms'/\ms'.dl=[]/\ExR Y e me/\DdR Y d dl/\Ev fun m=>qF P hk m c ms=some (me,kR ms' dl):=by
 have base:∀ (c:Code) (pl:Pl),wH P gl hk pl c->zag c=true->∀ (st:SS) (K:Option SDd->SX->SS->Option R) (r:R) (X:Gst) (ms:St),wY P gl ct n pl c st (fun e st'=>K none e st')=some r->StR (b0,none) X st ms->ms.dl=[]->RH X->RGl P gl X ->
   ∃ d e st' Y me ms' dl,K d e st'=some r/\Stp X Y/\StR (b0,none) Y st' ms'/\ms'.dl=[]/\ExR Y e me/\DdR Y d dl/\Ev fun m=>qF P hk m c ms=some (me,kR ms' dl):=by
  intro c pl hpl hn st K r X ms h hst h0 hr hg
  obtain⟨e,st',Y,me,ms',h1,S1,hs1,he1,ev1⟩:=(zcd hct n).1 pl c hpl (b0,none) _ _ _ _ X ms h hst hr hg
  exact⟨none,e,st',Y,me,ms',[],h1,S1,hs1,zh4 hs1 h0 hn ev1,he1,rfl,ev1.mono fun m p=>by rw[p];simp [kR]⟩
 intro c
 induction c with
 |seq a b iha ihb=>
  intro pl hpl hn st K r X ms h hst h0 hr hg
  obtain⟨ha,hb⟩:=hpl.l2
  simp only[zag,Bool.and_eq_true] at hn
  simp only[sdf] at h
  obtain⟨d,e,st',Y,me,ms',dl,h1,S1,hs1,d1,he1,hd1,ev1⟩:=iha _ ha hn.1 st _ r X ms h hst h0 hr hg
  cases e with
  |normal=>
   cases me<;>first|cases he1|skip
   cases d with
   |none=>
    cases(show dl=[] from hd1)
    obtain⟨d2,e2,st2,Z,me2,ms2,dl2,h2,S2,hs2,d3,he2,hd2,ev2⟩:=ihb _ hb hn.2 st' K r Y ms' h1 hs1 d1 S1.hr (hg.le S1.le)
    exact⟨d2,e2,st2,Z,me2,ms2,dl2,h2,S1.trans S2,hs2,d3,he2,hd2,Ev.succ ((ev1.and ev2).mono fun m ⟨p,q⟩=>by
     have e0:kR ms' []=ms':=by simp [kR]
     rw[e0] at p
     simp only[qF,z6,p,q])⟩
   |some d=>
    obtain⟨e2,st2,Z,me2,ms2,h2,S2,hs2,he2,ev2⟩:=(zcd hct n).1 pl.r b hb (b0,none) _ _ _ _ Y ms' h1 hs1 S1.hr (hg.le S1.le)
    exact⟨some d,e2,st2,Z,me2,ms2,dl,h2,S1.trans S2,hs2,zh4 hs2 d1 hn.2 ev2,he2,hd1.le S2.le,Ev.succ ((ev1.and ev2).mono fun m ⟨p,q⟩=>by simp only[qF,z6,p,znT m b ms' me2 ms2 q dl])⟩
  |_=>
   have hme:=he1.ne (by simp)
   refine⟨d,_,st',Y,me,ms',dl,h1,S1,hs1,d1,he1,hd1,Ev.succ (ev1.mono fun m p=>?_)⟩
   simp only[qF,z6,p]
   cases me<;>first|rfl|exact absurd rfl hme
 |region id ops b=>
  cases b with
  |true=>
   intro pl hpl hn st K r X ms h hst h0 hr hg
   exact base _ pl hpl hn st K r X ms h hst h0 hr hg
  |false=>
   intro pl hpl hn st K r X ms h hst h0 hr hg
   have hrnd:ms.rnd=none:=hst.dk.rnd
   simp only[sdf] at h
   split at h
   ·rename_i l o hdo
    obtain⟨hops,hgd,c,hop⟩:=ziH hdo
    obtain⟨e,st1,Y,me,ms1,h1,S1,hs1,he1,ev1⟩:=(zcd hct n).2.1 pl id ops 0 l hpl (b0,none) _ _ _ _ X ms h hst hr hg
    rw[hrnd,h0] at ev1
    have hd0:ms1.dl=[]:=by
     obtain⟨n1,ev1⟩:=ev1
     have q:zgG none (zbH P (qV P hk (qF P hk n1)) ops none l ms.env ms.h [])=some (me,ms1):=ev1 n1 (Nat.le_refl _)
     cases hmo:zbH P (qV P hk (qF P hk n1)) ops none l ms.env ms.h [] with
     |none=>rw[hmo] at q;cases q
     |some r1=>
      rw[hmo] at q
      have hmk:=zco hmo
      have e1:ms1.dl=zsJ r1:=by cases r1<;>(cases q;rfl)
      cases hd:ms1.dl with
      |nil=>rfl
      |cons d tl=>
       have hin:d ∈ ms1.dl:=by rw[hd];exact List.mem_cons_self
       obtain⟨m,e2,_⟩:=hs1.dk.dl d hin
       rcases hmk d (e1 ▸ hin) with q|⟨f,a,c,q⟩
       ·cases q
       ·rw[e2] at q;cases q
    have split1:∀ m,qF P hk (m+1) (.region id ops false) ms=zgG none (match zbH P (qV P hk (qF P hk m)) ops none l ms.env ms.h [] with
      |some (.ok env' h' mk')=>zbH P (qV P hk (qF P hk m)) ops none [o] env' h' mk'
      |r=>r):=by
     intro m
     simp only[qF,z6,hrnd,h0]
     rw[hops,zc4]
    cases e with
    |normal=>
     cases me<;>first|cases he1|skip
     simp only at h1
     split at h1
     ·rename_i f args cap hsop
      split at h1
      ·rename_i env he
       have hhit:Hit (sop P gl (sev gl st1.env) Y.sh o.op) (.dfr f args cap):=by rw[hs1.sh,hsop];exact .inl ⟨rfl,rfl⟩
       obtain⟨rs,hm,hrs⟩:=zd0 S1.hr (hg.le S1.le) (EvR.of hs1.env (hg.le S1.le)) hhit
       cases rs with
       |dfr f' a' c'=>
        obtain⟨rfl,ha,hc⟩:=hrs
        obtain⟨me',q1,q2⟩:=zbb (x:=.undef) hs1.env (v:=.tup []) ⟨[],rfl,rfl⟩ he
        refine⟨some (f,args,cap),.normal,⟨env,st1.h⟩,Y,.normal,⟨me',ms1.h,[],none⟩,[.call f a' c'],h1,S1,⟨q2,hs1.sh,hs1.h,by have:=hs1.dk;rw[hd0,hs1.dk.rnd] at this;exact this⟩,rfl,trivial,⟨a',c',rfl,ha,hc⟩,Ev.succ (ev1.mono fun m p=>?_)⟩
        rw[split1]
        cases hmo:zbH P (qV P hk (qF P hk m)) ops none l ms.env ms.h [] with
        |none=>rw[hmo] at p;cases p
        |some q=>
         rw[hmo] at p
         cases q with
         |pan=>cases p
         |ok env1 h1' mk1=>
          cases p
          have hmk:mk1=[]:=hd0
          subst hmk
          rw[hs1.h] at hm
          simp only[zbH,want,hgd]
          have hpo:zc7 o.op=none:=by rw[hop];rfl
          simp only[xy,hpo,hm,za6,q1,zhg,zgG]
          rfl
       |_=>cases hrs
      ·cases h1
     ·cases h1
    |_=>
     have hme:=he1.ne (by simp)
     refine⟨none,_,st1,Y,me,ms1,[],h1,S1,hs1,hd0,he1,rfl,Ev.succ (ev1.mono fun m p=>?_)⟩
     rw[split1]
     cases hmo:zbH P (qV P hk (qF P hk m)) ops none l ms.env ms.h [] with
     |none=>rw[hmo] at p;cases p
     |some q=>
      rw[hmo] at p
      cases q with
      |ok=>cases p;exact absurd rfl hme
      |pan=>simp only;rw[p];simp [kR]
   ·exact base _ pl hpl hn st K r X ms h hst h0 hr hg
 |_=>
  intro pl hpl hn st K r X ms h hst h0 hr hg
  exact base _ pl hpl hn st K r X ms h hst h0 hr hg
theorem zkM(hct:zmD P gl ct hk){n:Nat}{pl:Pl}{f:FuncId}(hpl:∀ fn b,P.funcs[f]?=some fn->fn.body=some b->wH P gl hk pl b):zgN P gl hk f fun R args h κ=>zsx P gl ct (R:=R) n pl f args h κ:=by
 intro R args κ r X margs h hargs hr hg
 simp only[zsx] at h
 split at h
 ·cases h
 ·rename_i hcf
  split at h
  ·rename_i fn hf
   split at h
   ·rename_i c hb
    split at h
    ·rename_i hle
     simp only[Bool.and_eq_true] at hle
     obtain⟨hle,hnr⟩:=hle
     have hle:=Nat.le_of_ble_eq_true hle
     have hhk:hk f=none:=by
      cases hq:hk f with
      |none=>rfl
      |some g=>have:=hct.ztd f g hq hcf;rw[hf] at this;simp [hb] at this
     have hl:=hargs.length
     obtain⟨d,e,st1,Y,me,ms1,dl,h1,S1,hs1,hd0,he1,hd1,ev1⟩:=zox (b0:=X.h.length) hct n c pl (hpl fn c hf hb) hnr _ _ r X ⟨Arr.of (margs++List.replicate (fn.ntmps-margs.length) AV.undef),X.h,[],none⟩ h ⟨zn3 hargs _,rfl,rfl,Dk.none⟩ rfl hr hg
     split at h1
     ·cases h1
     ·rename_i pn hpn
      obtain⟨mpn,hp1,hm⟩:∃ mpn,PnR Y pn mpn/\∀ m,qF P hk m c ⟨Arr.of (margs++List.replicate (fn.ntmps-margs.length) AV.undef),X.h,[],none⟩=some (me,kR ms1 dl)->qV P hk (qF P hk m) (.f f) margs X.h=zjQ P fn ms1.env (mleave (xY P (qF P hk m)) dl ms1.h mpn):=by
       have hdl:ms1.dl++dl=dl:=by rw[hd0];rfl
       cases e with
       |normal=>
        cases me<;>first|cases he1|skip
        cases hpn
        refine⟨.no,trivial,fun m p=>?_⟩
        simp only[qV,hhk,zei,hf,mstart,hb]
        rw[if_pos (by rw[hl];exact hle),p]
        simp only[kR,hdl]
       |ret=>
        cases me<;>first|cases he1|skip
        cases hpn
        refine⟨.no,trivial,fun m p=>?_⟩
        simp only[qV,hhk,zei,hf,mstart,hb]
        rw[if_pos (by rw[hl];exact hle),p]
        simp only[kR,hdl]
       |exit id=>cases hpn
       |panic v=>
        cases me<;>first|cases he1|skip
        cases hpn
        refine⟨.up _,he1,fun m p=>?_⟩
        simp only[qV,hhk,zei,hf,mstart,hb]
        rw[if_pos (by rw[hl];exact hle),p]
        simp only[kR,hdl]
      have fin:∀ (Z:Gst) (h2:SH) (pn2:SPn) (mpn2:Pn) (mh:zf),Stp Y Z->Z.sh=h2->Z.h=mh->PnR Z pn2 mpn2->zt2 P gl fn st1.env κ h2 pn2=some r->∃ q mq,κ q=some r/\CRR Z q mq/\zjQ P fn ms1.env (some (mh,mpn2))=some mq:=by
       intro Z h2 pn2 mpn2 mh S2 e1 e2 hp2 h3
       unfold zt2 at h3
       cases pn2 with
       |no=>
        cases mpn2<;>first|cases hp2|skip
        simp only at h3
        split at h3
        ·rename_i vs hvs
         rw[<- e1] at hvs
         obtain⟨xs,q1,q2⟩:=zey S2.hr (hs1.env.le S2.le) (hg.le (S1.trans S2).le) hvs
         rw[e2] at q1
         exact⟨_,.ret (znZ xs) mh,h3,⟨e1,e2,zg7 q2⟩,by simp only[zjQ,q1]⟩
        ·cases h3
       |up v=>
        cases mpn2<;>first|cases hp2|skip
        exact⟨_,.pan _ mh,h3,⟨e1,e2,hp2⟩,rfl⟩
       |re v=>cases h3
      split at h1
      ·cases(show dl=[] from hd1)
       obtain⟨q,mq,k1,k2,k3⟩:=fin Y st1.h pn mpn ms1.h (.refl S1.hr) hs1.sh hs1.h hp1 h1
       exact⟨q,Y,mq,k1,S1,k2,ev1.mono fun m p=>by rw[hm m p];exact k3⟩
      ·rename_i f' a' c'
       obtain⟨ma,mc,rfl,hA,hC⟩:=hd1
       unfold zri at h1
       split at h1
       ·rename_i fn' hf'
        split at h1
        ·rename_i c2 hb'
         split at h1
         ·rename_i hle'
          simp only[Bool.and_eq_true] at hle'
          obtain⟨hle',hnr'⟩:=hle'
          have hle':=Nat.le_of_ble_eq_true hle'
          have hAC:=hA.append hC
          have hl':=hAC.length
          obtain⟨e3,st3,pn3,Z,me3,ms3,mpn3,h3,S3,hs3,hd3,he3,hp3,ev3⟩:=zow (k0:=(Y.h.length,none)) hct n c2 .auto trivial hnr' _ _ _ r Y ⟨Arr.of ((ma++mc)++List.replicate (fn'.ntmps-(ma++mc).length) AV.undef),ms1.h,[],none⟩ mpn h1 ⟨zn3 hAC _,hs1.sh,hs1.h,Dk.none⟩ rfl S1.hr (hg.le S1.le) hp1
          have leave:∀ (hok:me3=.normal\/me3=.ret) {vs:List SV},zpb P gl st3.env st3.h fn'.results.toList=some vs->zt2 P gl fn st1.env κ st3.h pn3.settle=some r->∃ q Y mq,κ q=some r/\Stp X Y/\CRR Y q mq/\Ev fun n=>qV P hk (qF P hk n) (.f f) margs X.h=some mq:=by
           intro hok vs hvs h4
           rw[<- hs3.sh] at hvs
           obtain⟨xs,q1,q2⟩:=zey S3.hr hs3.env (hg.le (S1.trans S3).le) hvs
           rw[hs3.h] at q1
           obtain⟨q,mq,k1,k2,k3⟩:=fin Z st3.h pn3.settle mpn3.settle ms3.h S3 hs3.sh hs3.h hp3.settle h4
           refine⟨q,Z,mq,k1,S1.trans S3,k2,(ev1.and ev3).mono fun m ⟨p1,p3⟩=>?_⟩
           rw[hm m p1,<- k3]
           congr 1
           simp only[mleave,xY,hf',hb']
           rw[if_pos (by rw[hl'];exact hle'),p3]
           rcases hok with rfl|rfl<;>simp only[hd3,q1]
          cases e3 with
          |normal=>
           cases me3<;>first|cases he3|skip
           simp only at h3
           split at h3
           ·rename_i vs hvs;exact leave (.inl rfl) hvs h3
           ·cases h3
          |ret=>
           cases me3<;>first|cases he3|skip
           simp only at h3
           split at h3
           ·rename_i vs hvs;exact leave (.inr rfl) hvs h3
           ·cases h3
          |exit id=>cases h3
          |panic v=>cases h3
         ·cases h1
        ·cases h1
       ·cases h1
    ·cases h
   ·cases h
  ·cases h
end
end Go.Sx
