/- Machines and laws 3. -/
import Derived.Test.YtlfojfedfhpoiaaGreatDoorB2
import Derived.ChangeArms
import Derived.ReadAgain
import Derived.ChangeSame
import Derived.Deep.DeepHandedRow
import Derived.Test.YtlfojfedfhpoiaaGreatDoorB1
import Derived.KernelRfl
import Derived.Shelf.Strings.OnBuilder
import Derived.Shelf.Strings.Split
import Derived.Shelf.Bytes.SlIndexWhole
import Derived.Shelf.Pu.ParseUintPublic10
open List renaming getElem?_eq_some_iff->ya,getElem?_eq_getElem->yb,getElem?_map->yf,getElem?_append_left->yi,drop_eq_getElem_cons->ym,getElem?_range->yq,append_assoc->yr,getElem?_append_right->yu,getElem?_eq_none_iff->yw,range->yy,append_nil->yz,length_map->yA,mem_cons_of_mem->yB,mem_cons->yC,replicate->yD,eq_nil_of_length_eq_zero->yE,mem_cons_self->yF,flatten_cons->yG,length_cons->yI,getElem?_cons_zero->yK,getElem?_cons_succ->yL,ext_getElem?->yN,drop_of_length_le->yO,length_range->yP,take_append_drop->yT,take_succ_cons->yV,getElem?_take->yW,all_cons->yZ,cons_append->vd,getElem?_set_self->ve,drop_zero->vj,mem_append_left->vk,length_append->vm,map_map->vq,all_eq_true->vt,drop_drop->vu,getElem?_replicate->vy,mem_map->vA,map_congr_left->vF,getElem?_tail->vH,getElem?_set->vJ,nodup_nil->vM,take_left->vO,drop_left->vP,take_zero->vQ,map_cons->vT,map_id->vV
open Bool renaming and_eq_true->yc,or_eq_true->yn,or_eq_false_iff->vi,and_true->vw,not_eq_true'->vK,and_self->vS
open Nat renaming le_refl->yd,beq->ye,eq_of_beq_eq_true->yg,le_of_ble_eq_true->yk,lt_of_lt_of_le->yp,zero_add->yv,add_mul->yH,ble->yJ,mul_one->yM,blt->yQ,le_of_lt->yS,one_shiftLeft->yY,beq_refl->vg,sub_self->vh,zero_le->vl,add_right_comm->vn,eq_zero_or_pos->vo,testBit_or->vv,add_zero->vB,mul_le_mul_right->vE,testBit_two_pow->vG,not_lt_zero->vN,zero_mul->vU
open Option renaming map_eq_some_iff->yh,bind_eq_some_iff->yo,map_some->yU,bind_some->vI,none->vR
open Array renaming getElem?_eq_some_iff->yj,getElem?_eq_getElem->yX,getElem?_toList->vz,length_toList->vC
open Option.some renaming injEq->yx,inj->yR
open Prod.mk renaming inj->vp,injEq->vL
open List.cons renaming injEq->vD
set_option linter.unusedVariables false
set_option linter.unusedSectionVars false
set_option linter.unusedSimpArgs false
namespace Go.Sx
open Go Go.Gx Go.Mx
variable [kF]
structure SS where
 env:List SV
 h:SH
inductive SX where
 |normal|ret|exit (id:Nat)|panic (v:SV)
inductive SC where
 |ret (v:SV) (h:SH)|pan (v:SV) (h:SH)
abbrev CF:=(R:Type)->List SV->SH->(SC->Option R)->Option R
abbrev CT:=FuncId->Option CF
abbrev LF:=(R:Type)->SS->(SX->SS->Option R)->Option R
inductive Pl:Type 1 where
 |auto
 |two (a b:Pl)
 |one (a:Pl)
 |cal (i:Nat) (f:FuncId) (a rest:Pl)
 |by_ (g:LF)
 |yl (i id:Nat) (a b rest:Pl)
def Pl.l:Pl->Pl
 |.two a _=>a
 |_=>.auto
def Pl.r:Pl->Pl
 |.two _ b=>b
 |_=>.auto
def Pl.i:Pl->Pl
 |.one a=>a
 |_=>.auto
def Pl.f:Pl->Pl
 |.one a=>a
 |.two a _=>a
 |_=>.auto
def Pl.nx:Pl->Pl
 |.two _ b=>b
 |p=>p
def Pl.y:Pl->Nat->Nat->Pl×Pl
 |.cal _ _ _ rest,i,id=>rest.y i id
 |.yl j d a b rest,i,id=>match ye j i,ye d id with
  |true,true=>(a,b)
  |_,_=>rest.y i id
 |_,_,_=>(.auto,.auto)
def Pl.at:Pl->Nat->FuncId->Pl
 |.yl _ _ _ _ rest,i,f=>rest.at i f
 |.cal j g a rest,i,f=>match ye j i,ye g f with
  |true,true=>a
  |_,_=>rest.at i f
 |_,_,_=>.auto
def zaD(env:List SV)(d:Option Nat)(v:SV):Option (List SV):=match d with
 |some d=>match zuQ env d with
  |some _=>some (sset env d v)
  |none=>none
 |none=>some env
def alts{R:Type}(k:SR->Option R):zlv->Option R
 | []=>none
 |(g,r)::l=>cond g (k r) (alts k l)
def ztK(P:Program)(gl:GL)(env:List SV)(h:SH):List ResultVar->Option (List SV)
 | []=>some []
 |.tmp t::l=>match zuQ env t,ztK P gl env h l with
  |some v,some vs=>some (v::vs)
  |_,_=>none
 |.cell a T::l=>match zuQ env a,ztK P gl env h l with
  |some p,some vs=>match zor P gl h T p with
   |some v=>some (v::vs)
   |none=>none
  |_,_=>none
def zpi:List SV->SV
 | [v]=>v
 |vs=>.tup vs
def zA5(ops:Array Oper)(env:List SV)(j:Nat):Option (Nat×Bool):=match ops[j]? with
 |some o=>match o.dst with
  |some t=>match zuQ env t with
   |some (.a (.bool b))=>some (t,b)
   |_=>none
  |none=>none
 |none=>none
def zlY:Option SV->Bool
 |some (.tup _)=>true
 |_=>false
def zpV(ops:List Oper)(env:List SV)(j:Nat):Bool:=match ops[j]? with
 |some o=>match o.dst with
  |some t=>zlY (zuQ env t)
  |none=>false
 |none=>false
def zrn:Op->Bool
 |.move _|.assign _|.pick .. | .build .. | .nilCheck _|.binOp .. | .unOp .. | .makeInterface .. | .fieldAddr .. | .field .. | .indexAddr .. | .index .. | .extract ..=>true
 |.makeFunc (.func _) _ _=>true
 |_=>false
def jM(P:Program):List Oper->Nat->Nat
 | [],_=>0
 |o::l,i=>match kindOf P o.op with
  |.act=>(1 <<< i) ||| jM P l (i+1)
  |_=>jM P l (i+1)
def xX(P:Program):List Oper->Nat->Nat
 | [],_=>0
 |o::l,i=>match kindOf P o.op with
  |.hole _=>(1 <<< i) ||| xX P l (i+1)
  |_=>xX P l (i+1)
def zgT(i:Nat):List (Option Nat×Nat)->Nat->Nat
 | [],_=>0
 |(_,m)::I,k=>match bit m i with
  |true=>(1 <<< k) ||| zgT i I (k+1)
  |false=>zgT i I (k+1)
def zxF(a b:Nat):Bool:=ye (a &&& b) a
def okT(i b t:Nat):List (Option Nat×Nat)->Nat->Bool
 | [],_=>true
 |(some d,m)::I,k=>match ye d t with
  |true=>(bit b k||bit m i)&&okT i b t I (k+1)
  |false=>okT i b t I (k+1)
 |(none,_)::I,k=>okT i b t I (k+1)
def zpu(gl:GL)(I:List (Option Nat×Nat))(env:List SV)(i b:Nat):Operand->Option SV
 |.tmp t=>match okT i b t I 0 with
  |true=>zuQ env t
  |false=>none
 |o=>sev gl env o
def okK(I:List (Option Nat×Nat))(am hm D i b:Nat):Bool:=
 zxF b D&&(!bit D i&&(yQ b (1 <<< i)&&match bit am i with
  |true=>zxF (D &&& am) b&&ye (D &&& am) (am &&& ((1 <<< i)-1))
  |false=>match bit hm i with
   |true=>zxF am (D ||| zgT i I 0)
   |false=>zxF (D &&& am) b))
def zxa(I:List (Option Nat×Nat))(am hm D:Nat)(a:Bool):List (Option Nat×Nat)->Nat->Option Nat
 | [],_=>none
 |(_,b)::l,i=>match okK I am hm D i b&&(a||!bit am i) with
  |true=>some i
  |false=>zxa I am hm D a l (i+1)
def zsn(I:List (Option Nat×Nat))(am hm:Nat):Nat->Nat->List Nat
 |0,_=>[]
 |n+1,D=>match zxa I am hm D false I 0 with
  |some i=>i::zsn I am hm n (D ||| (1 <<< i))
  |none=>match zxa I am hm D true I 0 with
   |some i=>i::zsn I am hm n (D ||| (1 <<< i))
   |none=>[]
def zwQ(l:List Oper)(env:List SV)(j:Nat):Option (Nat×Bool):=match l[j]? with
 |some o=>match o.dst with
  |some t=>match zuQ env t with
   |some (.a (.bool b))=>some (t,b)
   |_=>none
  |none=>none
 |none=>none
def zwO:SV->Bool
 |.a (.int _ _)=>true
 |.a (.str _)=>true
 |.a .qC=>true
 |.u8 _=>true
 |.isl _ _=>true
 |.cl _ _=>true
 |.nsl _ _=>true
 |_=>false
def zeD:SV->Bool
 |.a (.int _ _)=>true
 |.a (.str _)=>true
 |.u8 _=>true
 |_=>false
def zwN(h:SH)(v:SV):Bool:=zwO v||match v with
 |.gs loc n=>match h[loc]? with
  |some (.seq _ _ k _)=>ye k n
  |_=>false
 |.sl loc n _ _ _=>match h[loc]? with
  |some (.seq _ _ k _)=>ye k n
  |_=>false
 |_=>false
def zAl(h:SH)(e:Operand->Option SV)(op:Op):Option (Option Nat):=match zrn op with
 |true=>some none
 |false=>match op with
  |.load _ x=>match e x with
   |some (.ptr loc _ _)=>some (some loc)
   |some (.zks loc _ _ _)=>some (some loc)
   |some (.zi2 _ _ _)=>some none
   |some (.zjA _ _ _)=>some none
   |_=>none
  |.slice _ x _ _ _=>match e x with
   |some v=>match zwO v with
    |true=>some none
    |false=>none
   |none=>none
  |.convert _ _ x=>match e x with
   |some v=>match zeD v with
    |true=>some none
    |false=>none
   |none=>none
  |.call c=>match c.callee,ztJ e c.args.toList with
   |.builtin .len,some [v]=>match zwN h v with
    |true=>some none
    |false=>none
   |_,_=>none
  |_=>none
def SB.zez:SB->Nat->SB
 |.cells l _ mk,m=>.cells l m mk
 |.seq u l k _,m=>.seq u l k m
 |.map ks vs _,m=>.map ks vs m
 |.kv u v l _,m=>.kv u v l m
 |.loop env id _,m=>.loop env id m
 |.gone,_=>.gone
def zgX(loc:Nat):List (Nat×Nat)->Bool
 | []=>false
 |p::l=>ye p.2 loc||zgX loc l
def zpv(h:SH)(i loc:Nat)(sl:List (Nat×Nat)):Option (SH×List (Nat×Nat)):=match h[loc]? with
 |some b=>match b.md with
  |0=>some (h.set loc (b.zez 1),(i,loc)::sl)
  |_=>match zgX loc sl with
   |true=>some (h,(i,loc)::sl)
   |false=>some (h,sl)
 |none=>none
def zbv(m:Nat):List (Nat×Nat)->List (Nat×Nat)
 | []=>[]
 |p::l=>match bit m p.1 with
  |true=>zbv m l
  |false=>p::zbv m l
def zsi(h:SH)(loc:Nat):SH:=match h[loc]? with
 |some b=>match b.md with
  |1=>h.set loc (b.zez 0)
  |_=>h
 |none=>h
def zd8(kept:List (Nat×Nat)):List (Nat×Nat)->SH->SH
 | [],h=>h
 |p::l,h=>match zgX p.2 kept with
  |true=>zd8 kept l h
  |false=>zd8 kept l (zsi h p.2)
def xD:SH->SH->SH
 | [],[]=>[]
 | [],b::h=>(match b.md with|1=>b.zez 0|_=>b)::xD [] h
 |b0::h0,b::h=>(match b0.md,b.md with|0,1=>b.zez 0|_,_=>b)::xD h0 h
 |_::_,[]=>[]
def zmE(I:List (Option Nat×Nat))(am i b:Nat):Bool:=!(zxF (am &&& ((1 <<< i)-1)) b&&zxF am (b ||| zgT i I 0))
section
variable (P:Program) (gl:GL) (ct:CT) {R:Type}
mutual
def zap:Nat->Pl->Code->SS->(SX->SS->Option R)->Option R
 |0,_,_,_,_=>none
 |n+1,pl,c,st,K=>match c with
  |.skip=>K .normal st
  |.label _=>K .normal st
  |.ret=>K .ret st
  |.exit id=>K (.exit id) st
  |.seq a b=>zap n pl.l a st fun e st'=>match e with
   |.normal=>zap n pl.r b st' K
   |e=>K e st'
  |.cond c a b=>match sev gl st.env c with
   |some (.a (.bool t))=>cond t (zap n pl.l a st K) (zap n pl.r b st K)
   |_=>none
  |.block id c=>zap n pl.i c st fun e st'=>match e with
   |.exit i=>match ye i id with
    |true=>K .normal st'
    |false=>K (.exit i) st'
   |e=>K e st'
  |.loop c=>match pl with
   |.by_ g=>g R st K
   |pl=>zap n pl.f c st fun e st'=>match e with
    |.normal=>zap n pl.nx (.loop c) st' K
    |e=>K e st'
  |.rangeFunc _ _ _ _=>match pl with
   |.by_ g=>g R st K
   |_=>none
  |.region _ ops false=>zlt n pl ops 0 ops.toList st K
  |.region _ ops true=>match pl with
   |.by_ g=>g R st K
   |pl=>match(zh5 ops.toList&&zfA (infos ops.toList []))&&zh0 P ops.toList (infos ops.toList []) 0 0,xO P ops.toList with
    |true,some _=>sdr n pl ops.toList (infos ops.toList []) (jM P ops.toList 0) (xX P ops.toList 0) 0 [] (zsn (infos ops.toList []) (jM P ops.toList 0) (xX P ops.toList 0) ops.toList.length 0) st fun st'=>K .normal ⟨st'.env,xD st.h st'.h⟩
    |_,_=>none
  |_=>none
def sdr:Nat->Pl->List Oper->List (Option Nat×Nat)->Nat->Nat->Nat->List (Nat×Nat)->List Nat->SS->(SS->Option R)->Option R
 |0,_,_,_,_,_,_,_,_,_,_=>none
 |n+1,pl,l,I,am,hm,D,sl,p,st,K=>match p with
  | []=>match ye D ((1 <<< l.length)-1) with
   |true=>K st
   |false=>none
  |i::p=>match l[i]?,I[i]? with
   |some o,some (_,b)=>match okK I am hm D i b with
    |false=>none
    |true=>
     let fin:=fun(sl:List (Nat×Nat)) (env:List SV) (v:SV) (h:SH)=>match zaD env o.dst v with
      |some env=>sdr n pl l I am hm (D ||| (1 <<< i)) sl p ⟨env,h⟩ K
      |none=>none
     let go:=fun(st:SS)=>match kindOf P o.op with
      |.hole t=>match ziS P t with
       |some z=>match zvZ (zw9 P t) z st.h with
        |some (v,h)=>fin sl st.env v h
        |none=>none
       |none=>none
      |.quiet=>alts (fun r=>match r with
       |.val v h=>match zmE I am i b with
        |false=>fin sl st.env v h
        |true=>match zAl st.h (zpu gl I st.env i b) o.op with
         |some none=>fin sl st.env v h
         |some (some loc)=>match zpv h i loc sl with
          |some (h,sl)=>fin sl st.env v h
          |none=>none
         |none=>none
       |_=>none) (sop P gl (zpu gl I st.env i b) st.h o.op)
      |.act=>alts (fun r=>match r with
       |.val v h=>fin (zbv b sl) st.env v h
       |.unit h=>fin (zbv b sl) st.env (.tup []) h
       |.dfr f args cap=>none
       |.call (.inl f) args=>zao n (pl.at i f) f args (zd8 (zbv b sl) sl st.h) fun r=>match r with
        |.ret v h=>fin (zbv b sl) st.env v h
        |.pan v h=>none
       |.call (.inr _) _=>none) (sop P gl (zpu gl I st.env i b) (zd8 (zbv b sl) sl st.h) o.op)
     match o.guard with
     |none=>go st
     |some (j,w)=>match bit b j,bit hm i with
      |true,false=>match zwQ l st.env j with
       |some (t,c)=>cond c
        (match w with|true=>go ⟨sset st.env t (.a (.bool true)),st.h⟩|false=>fin sl (sset st.env t (.a (.bool true))) (.tup []) st.h)
        (match w with|true=>fin sl (sset st.env t (.a (.bool false))) (.tup []) st.h|false=>go ⟨sset st.env t (.a (.bool false)),st.h⟩)
       |none=>match zpV l st.env j with
        |true=>fin sl st.env (.tup []) st.h
        |false=>none
      |_,_=>none
   |_,_=>none
def zlt:Nat->Pl->Array Oper->Nat->List Oper->SS->(SX->SS->Option R)->Option R
 |0,_,_,_,_,_,_=>none
 |n+1,pl,ops,i,l,st,K=>match l with
  | []=>K .normal st
  |o::l=>
   let go:=fun(st:SS)=>match ze9 o.op with
    |some x=>match sev gl st.env x with
     |some (.ifc t v)=>K (.panic (.ifc t v)) st
     |_=>none
    |none=>alts (fun r=>match r with
     |.val v h=>match zaD st.env o.dst v with
      |some env=>zlt n pl ops (i+1) l ⟨env,h⟩ K
      |none=>none
     |.unit h=>match zaD st.env o.dst (.tup []) with
      |some env=>zlt n pl ops (i+1) l ⟨env,h⟩ K
      |none=>none
     |.dfr f args cap=>none
     |.call (.inl f) args=>zao n (pl.at i f) f args st.h fun r=>match r with
      |.ret v h=>match zaD st.env o.dst v with
       |some env=>zlt n pl ops (i+1) l ⟨env,h⟩ K
       |none=>none
      |.pan v h=>K (.panic v) ⟨st.env,h⟩
     |.call (.inr loc) args=>match st.h[loc]? with
      |some (.loop env id 0)=>match kF.at_ id with
       |some (ps,asg,body)=>match ye args.length ps.size with
        |true=>zap n (pl.y i id).1 asg ⟨(ps.toList.zip args).foldl (fun e p=>e.set p.1 p.2) env,st.h.set loc .gone⟩ fun e st1=>match e with
         |.normal=>zap n (pl.y i id).2 body st1 fun e st2=>match e with
          |.normal=>match zaD st.env o.dst (.a (.bool true)) with
           |some env1=>zlt n pl ops (i+1) l ⟨env1,st2.h.set loc (.loop env id 0)⟩ K
           |none=>none
          |_=>none
         |_=>none
        |false=>none
       |none=>none
      |_=>none) (sop P gl (sev gl st.env) st.h o.op)
   let off:=fun(st:SS)=>match zaD st.env o.dst (.tup []) with
    |some env=>zlt n pl ops (i+1) l ⟨env,st.h⟩ K
    |none=>none
   match o.guard with
   |none=>go st
   |some (j,w)=>match zA5 ops st.env j with
    |some (t,b)=>cond b
     (match w with|true=>go ⟨sset st.env t (.a (.bool true)),st.h⟩|false=>off ⟨sset st.env t (.a (.bool true)),st.h⟩)
     (match w with|true=>off ⟨sset st.env t (.a (.bool false)),st.h⟩|false=>go ⟨sset st.env t (.a (.bool false)),st.h⟩)
    |none=>match zpV ops.toList st.env j with
     |true=>off st
     |false=>none
def zao:Nat->Pl->FuncId->List SV->SH->(SC->Option R)->Option R
 |0,_,_,_,_,_=>none
 |n+1,pl,f,args,h,κ=>match ct f with
  |some g=>g R args h κ
  |none=>match P.funcs[f]? with
   |some fn=>match fn.body with
    |some c=>match yJ args.length fn.ntmps with
     |true=>zap n pl c ⟨args++yD (fn.ntmps-args.length) (.tup []),h⟩ fun e st=>match e with
      |.panic v=>κ (.pan v st.h)
      |.exit _=>none
      |_=>match ztK P gl st.env st.h fn.results.toList with
       |some vs=>κ (.ret (zpi vs) st.h)
       |none=>none
     |false=>none
    |none=>none
   |none=>none
end
end
structure Dk(k:Nat×Option Nat)(X:Gst)(dl:List Dfd)(rnd:Option Nat):Prop where
 base:k.1<=X.h.length
 nd:dl.Nodup
 dl:∀ d ∈ dl,∃ m,d=.mark m/\k.1<=m/\X.h[m]?=some .dfr/\Kp X m/\∀ (i v:Nat),X.σ[i]? ≠ some (some (m,v))
 rnd:rnd=k.2
 lo:∀ m,k.2=some m->(∃ e ps a b s p,X.h[m]?=some (.loop e ps a b s p))/\Kp X m
theorem Dk.step{k:Nat×Option Nat}{X Y:Gst}(hr:RH X)(S:Stp X Y){dl:List Dfd}{rnd:Option Nat}(h:Dk k X dl rnd):Dk k Y dl rnd:=
 ⟨Nat.le_trans h.base S.fm.len,h.nd,fun d hd=>let⟨m,h1,h2,h3,h4,h5⟩:=h.dl d hd;let⟨q1,q2⟩:=h4.step hr.len S;⟨m,h1,h2,q2.trans h3,q1,fun i v e=>let⟨v',e'⟩:=S.fm.new i m v e h4.lt;h5 i v' e'⟩,h.rnd,fun m hm=>let⟨⟨e,ps,a,b,s,p,h1⟩,h2⟩:=h.lo m hm;let⟨q1,q2⟩:=h2.step hr.len S;⟨⟨e,ps,a,b,s,p,q2.trans h1⟩,q1⟩⟩
theorem Dk.none{X:Gst}:Dk (X.h.length,vR) X [] vR:=⟨yd _,vM,fun _ h=>(nomatch h),rfl,fun _ h=>(nomatch h)⟩
structure StR(k:Nat×Option Nat)(X:Gst)(st:SS)(ms:St):Prop where
 env:RVs X st.env ms.env.toL
 sh:X.sh=st.h
 h:X.h=ms.h
 dk:Dk k X ms.dl ms.rnd
def ExR(X:Gst):SX->Ex->Prop
 |.normal,.normal=>True
 |.ret,.ret=>True
 |.exit i,.exit j=>i=j
 |.panic v,.panic x=>RV X v x
 |_,_=>False
def CRR(X:Gst):SC->CR->Prop
 |.ret v sh,.ret x h=>X.sh=sh/\X.h=h/\RV X v x
 |.pan v sh,.pan x h=>X.sh=sh/\X.h=h/\RV X v x
 |_,_=>False
def Ev(p:Nat->Prop):Prop:=∃ n0,∀ n,n0<=n->p n
theorem Ev.mono{p q:Nat->Prop}(h:Ev p)(k:∀ n,p n->q n):Ev q:=let⟨n0,h0⟩:=h;⟨n0,fun n hn=>k n (h0 n hn)⟩
theorem Ev.and{p q:Nat->Prop}(h:Ev p)(k:Ev q):Ev fun n=>p n/\q n:=let⟨a,ha⟩:=h;let⟨b,hb⟩:=k;⟨max a b,fun n hn=>⟨ha n (by omega),hb n (by omega)⟩⟩
theorem Ev.succ{p:Nat->Prop}(h:Ev fun n=>p (n+1)):Ev p:=let⟨a,ha⟩:=h;⟨a+1,fun n hn=>by obtain⟨k,rfl⟩:∃ k,n=k+1:=⟨n-1,by omega⟩;exact ha k (by omega)⟩
theorem Ev.all{p:Nat->Prop}(h:∀ n,p n):Ev p:=⟨0,fun n _=>h n⟩
section
variable (P:Program) (gl:GL) (ct:CT) (hk:wJ)
def zkd(c:Code)(f:LF):Prop:=∀ (k:Nat×Option Nat) (R:Type) (st:SS) (K:SX->SS->Option R) (r:R) (X:Gst) (ms:St),f R st K=some r->StR k X st ms->RH X->RGl P gl X ->
 ∃ e st' Y me ms',K e st'=some r/\Stp X Y/\StR k Y st' ms'/\ExR Y e me/\Ev fun n=>jO P hk n c ms=some (me,ms')
def zhI(f:FuncId)(g:CF):Prop:=∀ (R:Type) (args:List SV) (κ:SC->Option R) (r:R) (X:Gst) (margs:List AV),g R args X.sh κ=some r->RVs X args margs->RH X->RGl P gl X ->
 ∃ q Y mq,κ q=some r/\Stp X Y/\CRR Y q mq/\Ev fun n=>jU P hk (jO P hk n) (.f f) margs X.h=some mq
def xx:Pl->Code->Prop
 |.auto,_=>True
 |.two a b,c=>match c with
  |.seq x y=>xx a x/\xx b y
  |.cond _ x y=>xx a x/\xx b y
  |.loop x=>xx a x/\xx b (.loop x)
  |_=>False
 |.one a,c=>match c with
  |.block _ x=>xx a x
  |.loop x=>xx a x
  |_=>False
 |.cal _ f a rest,c=>(∀ fn b,P.funcs[f]?=some fn->fn.body=some b->xx a b)/\xx rest c
 |.by_ g,c=>match c with
  |.loop x=>zkd P gl hk (.loop x) g
  |.region id ops true=>zkd P gl hk (.region id ops true) g
  |.rangeFunc f ps a b=>zkd P gl hk (.rangeFunc f ps a b) g
  |_=>False
 |.yl _ id a b rest,c=>(∀ ps asg body,kF.at_ id=some (ps,asg,body)->xx a asg/\xx b body)/\xx rest c
structure zm9:Prop where
 calls:∀ f g,ct f=some g->zhI P gl hk f g
 zyU:∀ f g,hk f=some g->ct f=none->(P.funcs[f]?).bind (·.body)=none
end
theorem zke{R:Type}{k:SR->Option R}{l:zlv}{r:R}(h:alts k l=some r):∃ q,Hit l q/\k q=some r:=by
 induction l with
 |nil=>cases h
 |cons p l ih=>
  obtain⟨g,q⟩:=p
  cases g with
  |true=>exact⟨q,.inl ⟨rfl,rfl⟩,h⟩
  |false=>obtain⟨q',h1,h2⟩:=ih h;exact⟨q',.inr ⟨rfl,h1⟩,h2⟩
theorem zcZ{X:Gst}{env env':List SV}{me:Arr AV}{d:Option Nat}{v:SV}{x:AV}(he:RVs X env me.toL)(hv:RV X v x)(h:zaD env d v=some env'):∃ me',zjp me d x=some me'/\RVs X env' me'.toL:=by
 cases d with
 |none=>cases h;exact⟨me,rfl,he⟩
 |some d=>
  simp only[zaD,zeb,zox] at h
  split at h
  ·rename_i w hw
   cases h
   have hd:=(ya.1 hw).1
   have hl:me.length=env.length:=by rw[<- Arr.xd,he.length]
   refine⟨me.set d x,by simp only[zjp];rw[if_pos (by omega)],?_⟩
   have:(me.set d x).toL=me.toL.set d x:=by
    refine yN fun j=>?_
    rw[Arr.jT,Arr.qk,vJ,Arr.jT,Arr.xd]
   rw[this]
   exact he.set d hv
  ·cases h
theorem EvR.of{P:Program}{gl:GL}{X:Gst}{env:List SV}{me:Arr AV}(he:RVs X env me.toL)(hg:RGl P gl X):EvR X (sev gl env) (mev P me X.h):=fun o v h=>zgc he hg h
theorem zgP{P:Program}{gl:GL}{X:Gst}{env:List SV}{me:Arr AV}(hr:RH X)(he:RVs X env me.toL)(hg:RGl P gl X){l:List ResultVar}{vs:List SV}(h:ztK P gl env X.sh l=some vs):∃ xs,zmk P me X.h l=some xs/\RVs X vs xs:=by
 induction l generalizing vs with
 |nil=>cases h;exact⟨[],rfl,rfl⟩
 |cons a l ih=>
  cases a with
  |tmp t=>
   simp only[ztK,zeb] at h
   split at h
   ·rename_i v vs' h1 h2
    cases h
    obtain⟨x,h3,h4⟩:=he.get h1
    obtain⟨xs,h5,h6⟩:=ih h2
    exact⟨x::xs,by simp only[zmk,show me[t]?=some x from Arr.jT.symm.trans h3,h5],x,xs,rfl,h4,h6⟩
   ·cases h
  |cell a T=>
   simp only[ztK,zeb] at h
   split at h
   ·rename_i p vs' h1 h2
    split at h
    ·rename_i v hv
     cases h
     obtain⟨x,h3,h4⟩:=he.get h1
     obtain⟨xs,h5,h6⟩:=ih h2
     have h3:me[a]?=some x:=Arr.jT.symm.trans h3
     obtain⟨loc,off,ver,lim,rfl,y,hy,⟨n,cs,q1,q2,q3,rfl⟩|⟨q1,q3⟩⟩:=ziP hr hg h4 hv
     ·exact⟨.agg cs::xs,by simp only[zmk,h3,h5,q1,q2,q3],_,_,rfl,hy,h6⟩
     ·exact⟨y::xs,by simp only[zmk,h3,h5,q1,q3],_,_,rfl,hy,h6⟩
    ·cases h
   ·cases h
theorem zjO{X:Gst}{vs:List SV}{xs:List AV}(h:RVs X vs xs):RV X (zpi vs) (zsf xs):=by
 match vs,xs,h with
 | [],_,rfl=>exact⟨[],rfl,rfl⟩
 | [v],_,⟨x,_,rfl,h1,rfl⟩=>exact h1
 |v::w::vs,_,⟨x,_,rfl,h1,y,xs,rfl,h2⟩=>exact⟨_,rfl,x,_,rfl,h1,y,xs,rfl,h2⟩
end Go.Sx
namespace Go.Sx
open Go Go.Gx Go.Mx
variable [kF]
mutual
theorem beq_refl:∀ (x:AV),x.beq x=true
 |.bool a=>by simp [AV.beq]
 |.int k a=>by simp [AV.beq]
 |.str a=>by simp [AV.beq]
 |.zhy=>rfl
 |.ptr l o v m=>by simp [AV.beq]
 |.qC=>rfl
 |.sl l o n z v c=>by simp [AV.beq]
 |.zhx=>rfl
 |.map l=>by simp [AV.beq]
 |.zlr=>rfl
 |.fn f a c=>by simp [AV.beq,zcI a,zcI c]
 |.zer=>rfl
 |.ifc t v=>by simp [AV.beq,beq_refl v]
 |.opq=>rfl
 |.agg l=>by simp [AV.beq,zcI l]
 |.tup l=>by simp [AV.beq,zcI l]
 |.any=>rfl
 |.iv a b=>by simp [AV.beq]
 |.yld a=>by simp [AV.beq]
theorem zcI:∀ (l:List AV),AV.zoJ l l=true
 | []=>rfl
 |x::l=>by simp [AV.zoJ,beq_refl x,zcI l]
end
theorem Stp.grow{X:Gst}(hr:RH X)(bs:List Blk):Stp X ⟨X.h++bs,X.Φ,X.σ,X.sh⟩:=by
 have hh:∀ m,m<X.h.length->(X.h++bs)[m]?=X.h[m]?:=fun m hm=>Arr.j7 hm
 have hle:X.le ⟨X.h++bs,X.Φ,X.σ,X.sh⟩:=⟨fun m hm=>hh m (hr.Φlt m hm),fun _ h=>h,yd _,fun _ _ v h=>⟨v,h⟩,fun _ _ l k md _ h=>⟨l,k,md,h,yd _,fun _=>⟨rfl,rfl⟩⟩,hr.len⟩
 have hl:X.h.length<=(X.h++bs).length:=by rw[Arr.ql];omega
 exact⟨hle,⟨hr.len,hr.inj,fun i m v h=>yp (hr.lt i m v h) hl,fun m hm=>yp (hr.Φlt m hm) hl,fun i b o hb ho=>(hr.blk i b o hb ho).le hle fun m v e=>hh m (hr.lt i m v (e ▸ ho)),hr.own⟩,
  ⟨hl,fun m hm _=>hh m hm,fun i b hb hm=>⟨b,hb,hm⟩,fun i m v h _=>⟨v,h⟩,fun i h=>⟨h,rfl⟩,fun _ _ h=>.inl h⟩⟩
section
variable {P:Program} {e e':Operand->Option AV} (hm:∀ x v,e x=some v->e' x=some v)
include hm
theorem zaZ{l:List Operand}{vs:List AV}(h:zje e l=some vs):zje e' l=some vs:=by
 induction l generalizing vs with
 |nil=>exact h
 |cons x l ih=>
  simp only[zje] at h |-
  split at h
  ·rename_i v vs' h1 h2;rw[hm _ _ h1,ih h2];exact h
  ·cases h
theorem ze7{l:List (Nat×Operand)}{vs:List (Nat×AV)}(h:zcU e l=some vs):zcU e' l=some vs:=by
 induction l generalizing vs with
 |nil=>exact h
 |cons x l ih=>
  obtain⟨i,x⟩:=x
  simp only[zcU] at h |-
  split at h
  ·rename_i v vs' h1 h2;rw[hm _ _ h1,ih h2];exact h
  ·cases h
omit hm in
theorem zga{h h' h1:zg}{o:Option AV}{v:AV}(q:rv h o=some (.val v h1)):rv h' o=some (.val v h'):=by
 cases o with
 |none=>cases q
 |some x=>cases q;rfl
theorem zk6{h h' h1:zg}{x:Operand}{v:AV}(q:rv h (e x)=some (.val v h1)):rv h' (e' x)=some (.val v h'):=by
 cases ex:e x with
 |none=>rw[ex] at q;cases q
 |some y=>rw[ex] at q;rw[hm _ _ ex];cases q;rfl
theorem zun{h h' h1:zg}{op:Op}{v:AV}(hf:zrn op=true)(q:mop P e h op=some (.val v h1)):mop P e' h' op=some (.val v h'):=by
 cases op with
 |move x=>exact zk6 hm q
 |assign x=>exact zk6 hm q
 |pick c a b=>
  simp only[mop] at q |-
  split at q
  ·rename_i hc;rw[hm _ _ hc];exact zk6 hm q
  ·rename_i hc;rw[hm _ _ hc];exact zk6 hm q
  ·cases q
 |build t parts=>
  simp only[mop] at q |-
  split at q
  ·rename_i ps hp;rw[ze7 hm hp];exact zga q
  ·cases q
 |nilCheck x=>
  simp only[mop] at q |-
  cases ex:e x with
  |none=>rw[ex] at q;cases q
  |some y=>rw[ex] at q;rw[hm _ _ ex];cases y<;>first|(cases q;rfl)|cases q
 |binOp op t x y t'=>
  simp only[mop] at q |-
  split at q
  ·rename_i a b h1 h2
   rw[hm _ _ h1,hm _ _ h2]
   split at q
   ·rename_i hg;simp only[hg,if_true];exact zga q
   ·cases q
  ·cases q
 |unOp u t x=>
  simp only[mop] at q |-
  split at q
  ·rename_i h1;rw[hm _ _ h1];cases q;rfl
  ·rename_i h1;rw[hm _ _ h1];cases q;rfl
  ·rename_i h1;rw[hm _ _ h1];cases q;rfl
  ·cases q
 |makeInterface t x=>
  simp only[mop] at q |-
  split at q
  ·cases q
  ·rename_i d y hy h0 h1;rw[hm _ _ h1,h0];cases q;cases d<;>first|rfl|exact absurd rfl (hy _)
  ·cases q
 |makeFunc f a b=>
  cases f with
  |func f=>
   simp only[mop] at q |-
   split at q
   ·rename_i h1 h2;rw[zaZ hm h1,zaZ hm h2];cases q;rfl
   ·cases q
  |_=>cases hf
 |fieldAddr s x f=>
  simp only[mop] at q |-
  split at q
  ·rename_i h1;rw[hm _ _ h1];exact zga q
  ·cases q
 |field t x f=>
  simp only[mop] at q |-
  split at q
  ·rename_i h0 h1
   rw[hm _ _ h1]
   split at q
   ·rename_i h2;rw[h0];simp only[h2];exact zga q
   ·cases q
  ·cases q
 |indexAddr t x i=>
  simp only[mop] at q |-
  split at q
  ·rename_i h1 h2;rw[hm _ _ h1,hm _ _ h2];exact zga q
  ·cases q
 |index t x i=>
  simp only[mop] at q |-
  split at q
  ·rename_i h1 h2;rw[hm _ _ h1,hm _ _ h2];exact zga q
  ·cases q
 |extract x i=>
  simp only[mop] at q |-
  split at q
  ·rename_i h1;rw[hm _ _ h1];exact zga q
  ·cases q
 |_=>cases hf
theorem zuo{h h' h1:zg}{t:TypeId}{x:Operand}{v:AV}(hs:∀ loc off ver lim,e x=some (.ptr loc off ver lim)->h'[loc]?=h[loc]?)(q:mop P e h (.load t x)=some (.val v h1)):mop P e' h' (.load t x)=some (.val v h'):=by
 simp only[mop] at q |-
 split at q
 ·rename_i loc off ver lim n h2 h3 h4
  rw[hm _ _ h2,h3,h4]
  simp only[zgI (hs _ _ _ _ h2)]
  split at q
  ·rename_i h5;cases q;simp only[]
  ·cases q
 ·rename_i loc off ver lim h2 h3
  rw[hm _ _ h2,h3]
  simp only[zgI (hs _ _ _ _ h2)]
  split at q
  ·rename_i h5;cases q;simp only[]
  ·cases q
 ·cases q
end
theorem zaA{e e':Operand->Option AV}(hm:∀ x v,e x=some v->e' x=some v){o:Option Operand}{v:Option Int}(h:zbi e o=some v):zbi e' o=some v:=by
 cases o with
 |none=>exact h
 |some x=>
  simp only[zbi] at h |-
  split at h
  ·rename_i h1;rw[hm _ _ h1];exact h
  ·cases h
theorem zhR{P:Program}{e e':Operand->Option AV}(hm:∀ x v,e x=some v->e' x=some v){h:zg}{op:Op}{q:Rs}(hq:mop P e h op=some q):mop P e' h op=some q:=by
 have one:∀ {x:Operand} {f:Option AV->Option Rs},f (e x)=some q->f none=none->f (e' x)=some q:=fun {x f} h1 h2=>by
  cases ex:e x with
  |none=>rw[ex,h2] at h1;cases h1
  |some y=>rw[ex] at h1;rw[hm _ _ ex];exact h1
 cases op with
 |move x=>exact one (f:=rv h) hq rfl
 |assign x=>exact one (f:=rv h) hq rfl
 |pick c a b=>
  simp only[mop] at hq |-
  split at hq
  ·rename_i hc;rw[hm _ _ hc];exact one (f:=rv h) hq rfl
  ·rename_i hc;rw[hm _ _ hc];exact one (f:=rv h) hq rfl
  ·cases hq
 |alloc t=>exact hq
 |box t x=>simp only[mop] at hq |-;split at hq<;>first|(cases hq;done)|(rename_i h1;rw[hm _ _ h1];exact hq)
 |build t parts=>simp only[mop] at hq |-;split at hq<;>first|(cases hq;done)|(rename_i h1;rw[ze7 hm h1];exact hq)
 |buildSlice t len parts=>simp only[mop] at hq |-;split at hq<;>first|(cases hq;done)|(rename_i h1;rw[ze7 hm h1];exact hq)
 |load t x=>
  simp only[mop] at hq |-
  split at hq
  ·rename_i h1 h2 h3;rw[hm _ _ h1,h2,h3];exact hq
  ·rename_i h1 h2;rw[hm _ _ h1,h2];exact hq
  ·cases hq
 |store t a x=>simp only[mop] at hq |-;split at hq<;>first|(cases hq;done)|(rename_i h1 h2 h3;rw[hm _ _ h1,hm _ _ h2,h3];exact hq)
 |nilCheck x=>
  simp only[mop] at hq |-
  cases ex:e x with
  |none=>rw[ex] at hq;cases hq
  |some y=>rw[ex] at hq;rw[hm _ _ ex];exact hq
 |binOp op t x y t'=>simp only[mop] at hq |-;split at hq<;>first|(cases hq;done)|(rename_i h1 h2;rw[hm _ _ h1,hm _ _ h2];exact hq)
 |unOp u t x=>
  simp only[mop] at hq |-
  cases ex:e x with
  |none=>rw[ex] at hq;cases u<;>cases hq
  |some y=>rw[ex] at hq;rw[hm _ _ ex];exact hq
 |convert s d x=>simp only[mop] at hq |-;split at hq<;>first|(cases hq;done)|(rename_i h1;rw[hm _ _ h1];exact hq)
 |makeInterface t x=>
  simp only[mop] at hq |-
  split at hq
  ·cases hq
  ·rename_i d y hy h0 h1;rw[hm _ _ h1,h0];cases hq;cases d<;>first|rfl|exact absurd rfl (hy _)
  ·cases hq
 |makeFunc f a b=>
  cases f with
  |func f=>simp only[mop] at hq |-;split at hq<;>first|(cases hq;done)|(rename_i h1 h2;rw[zaZ hm h1,zaZ hm h2];exact hq)
  |_=>cases hq
 |makeMap t r=>cases r with
  |none=>exact hq
  |some _=>cases hq
 |makeSlice t a b=>simp only[mop] at hq |-;split at hq<;>first|(cases hq;done)|(rename_i h1 h2;rw[hm _ _ h1,hm _ _ h2];exact hq)
 |slice t x lo hi mx=>simp only[mop] at hq |-;split at hq<;>first|(cases hq;done)|(rename_i h1 h2 h3 h4;rw[hm _ _ h1,zaA hm h2,zaA hm h3,zaA hm h4];exact hq)
 |fieldAddr s x f=>simp only[mop] at hq |-;split at hq<;>first|(cases hq;done)|(rename_i h1;rw[hm _ _ h1];exact hq)
 |field t x f=>simp only[mop] at hq |-;split at hq<;>first|(cases hq;done)|(rename_i h0 h1;rw[hm _ _ h1,h0];exact hq)
 |indexAddr t x i=>simp only[mop] at hq |-;split at hq<;>first|(cases hq;done)|(rename_i h1 h2;rw[hm _ _ h1,hm _ _ h2];exact hq)
 |index t x i=>simp only[mop] at hq |-;split at hq<;>first|(cases hq;done)|(rename_i h1 h2;rw[hm _ _ h1,hm _ _ h2];exact hq)
 |lookup t x i ok=>simp only[mop] at hq |-;split at hq<;>first|(cases hq;done)|(rename_i h1 h2;rw[hm _ _ h1,hm _ _ h2];exact hq)
 |mapUpdate t m k v=>simp only[mop] at hq |-;split at hq<;>first|(cases hq;done)|(rename_i h1 h2 h3;rw[hm _ _ h1,hm _ _ h2,hm _ _ h3];exact hq)
 |insert t m k v=>simp only[mop] at hq |-;split at hq<;>first|(cases hq;done)|(rename_i h1 h2 h3;rw[hm _ _ h1,hm _ _ h2,hm _ _ h3];exact hq)
 |typeAssert x t u c=>
  cases c with
  |false=>cases hq
  |true=>
   simp only[mop] at hq |-
   cases ex:e x with
   |none=>
    rw[ex] at hq
    revert hq
    generalize P.underlying u=d
    intro hq
    cases d with
    |none=>cases hq
    |some d=>cases d<;>cases hq
   |some y=>rw[ex] at hq;rw[hm _ _ ex];exact hq
 |range t x=>
  simp only[mop] at hq |-
  cases ex:e x with
  |none=>
   rw[ex] at hq
   revert hq
   generalize P.underlying t=d
   intro hq
   cases d with
   |none=>cases hq
   |some d=>cases d<;>cases hq
  |some y=>rw[ex] at hq;rw[hm _ _ ex];exact hq
 |next x b=>
  cases b with
  |true=>cases hq
  |false=>simp only[mop] at hq |-;split at hq<;>first|(cases hq;done)|(rename_i h1;rw[hm _ _ h1];exact hq)
 |extract x i=>simp only[mop] at hq |-;split at hq<;>first|(cases hq;done)|(rename_i h1;rw[hm _ _ h1];exact hq)
 |call c=>
  simp only[mop] at hq |-
  split at hq
  ·rename_i f args h1 h2
   rw[h1,zaZ hm h2]
   simp only
   split at hq
   ·rename_i h3;rw[hm _ _ h3];exact hq
   ·rename_i h3;rw[hm _ _ h3];exact hq
   ·cases hq
  ·rename_i b args h1 h2
   rw[h1,zaZ hm h2];exact hq
  ·cases hq
 |defer c=>
  simp only[mop] at hq |-
  split at hq
  ·rename_i f args h1 h2
   rw[h1,zaZ hm h2]
   simp only
   split at hq
   ·rename_i h3;rw[hm _ _ h3];exact hq
   ·cases hq
  ·cases hq
 |_=>cases hq
def MFr(P:Program)(e:Operand->Option AV)(op:Op):Prop:=∀ (e':Operand->Option AV) (h h' h1:zg) (v:AV),(∀ x w,e x=some w->e' x=some w)->mop P e h op=some (.val v h1)->mop P e' h' op=some (.val v h')
def zpU:AV->Prop
 |.int _ _=>True
 |.str _=>True
 |.qC=>True
 |.sl ..=>True
 |_=>False
def zB0:AV->Prop
 |.int _ _=>True
 |.str _=>True
 |_=>False
theorem zik{X:Gst}{v:SV}{x:AV}(h:zwO v=true)(q:RV X v x):zpU x:=by
 cases v with
 |a w=>cases(show x=_ from q);cases x<;>first|trivial|cases h
 |u8 b=>cases(show x=_ from q);trivial
 |isl u l=>rcases(show RSl X.h X.Φ false u l x from q) with⟨_,rfl⟩|⟨m,off,ver,c',cs,rfl,_⟩<;>trivial
 |cl u l=>rcases q.1 with⟨_,rfl⟩|⟨m,off,ver,c',cs,rfl,_⟩<;>trivial
 |nsl u l=>obtain⟨m,off,ver,c',cs,rfl,_⟩:=q;trivial
 |_=>cases h
theorem znz{X:Gst}{v:SV}{x:AV}(h:zwN X.sh v=true)(q:RV X v x):zpU x:=by
 unfold zwN at h
 rcases yn _ _ ▸ h with h|h
 ·exact zik h q
 ·split at h
  ·split at h
   ·rename_i hb
    cases zj h
    obtain⟨_,o,ho,hc⟩:=q
    have hQ:=(hc _ _ _ _ hb).2 rfl
    cases o with
    |none=>obtain⟨rfl,_⟩:=hQ;trivial
    |some p=>cases(show x=_ from hQ);trivial
   ·cases h
  ·split at h
   ·rename_i hb
    cases zj h
    obtain⟨_,o,ho,hc⟩:=q
    have hQ:=((hc _ _ _ _ hb).2 rfl).2
    cases o with
    |none=>cases(show x=_ from hQ);trivial
    |some p=>cases(show x=_ from hQ);trivial
   ·cases h
  ·cases h
theorem zqd{X:Gst}{v:SV}{x:AV}(h:zeD v=true)(q:RV X v x):zB0 x:=by
 cases v with
 |a w=>cases(show x=_ from q);cases x<;>first|trivial|cases h
 |u8 b=>cases(show x=_ from q);trivial
 |_=>cases h
theorem zn3{P:Program}{t:TypeId}{x:AV}{a b c:Option Int}{h h':zg}(hx:zpU x):kE P t x a b c h=kE P t x a b c h':=by
 unfold kE
 cases x<;>first|(cases hx;done)|(cases P.underlying t with|none=>rfl|some d=>cases d<;>rfl)
theorem zrY{P:Program}{t:TypeId}{x:AV}{h h':zg}(hx:zpU x):zrX P t x h=zrX P t x h':=by
 unfold zrX
 cases x<;>first|(cases hx;done)|(cases P.underlying t with|none=>rfl|some d=>cases d<;>rfl)
theorem zrT{P:Program}{e:Operand->Option AV}{t:TypeId}{x:Operand}{lo hi mx:Option Operand}(hx:∀ v,e x=some v->zpU v)(hs:∃ (v y:AV) (a b c:Option Int) (h0:zg),e x=some v/\zbi e lo=some a/\zbi e hi=some b/\zbi e mx=some c/\kE P t v a b c h0=some y):MFr P e (.slice t x lo hi mx):=by
 intro e' h h' h1 v hm q
 obtain⟨v0,y,a,b,c,h0,k1,k2,k3,k4,k5⟩:=hs
 have k6:∀ h,kE P t v0 a b c h=some y:=fun h=>by rw[zn3 (h':=h0) (hx _ k1)];exact k5
 simp only[mop,k1,k2,k3,k4,zgD (k6 h)] at q
 simp only[mop,hm _ _ k1,zaA hm k2,zaA hm k3,zaA hm k4,zgD (k6 h')]
 exact zga q
theorem zrN{P:Program}{s d:TypeId}{k:IntKind}{n:Int}{h:zg}:zb3 P s d (.int k n) h=match P.underlying s,P.underlying d with
  |some _,some (.int k')=>some (.int k' (k'.wrap n),h)
  |_,_=>none:=by
 unfold zb3
 cases P.underlying s with
 |none=>rfl
 |some a=>cases P.underlying d with
  |none=>cases a<;>rfl
  |some b=>cases a<;>cases b<;>rfl
theorem zrO{P:Program}{s d:TypeId}{l:List UInt8}{h:zg}(hd:∀ e,P.underlying d≠some (.slice e)):zb3 P s d (.str l) h=match P.underlying s,P.underlying d with
  |some _,some .string=>some (.str l,h)
  |_,_=>none:=by
 unfold zb3
 cases P.underlying s with
 |none=>rfl
 |some a=>cases hb:P.underlying d with
  |none=>cases a<;>rfl
  |some b=>cases b<;>first|exact absurd hb (hd _)|(cases a<;>rfl)
theorem zug{P:Program}{e:Operand->Option AV}{s d:TypeId}{x:Operand}(hk:kindOf P (.convert s d x)=.quiet)(hx:∀ v,e x=some v->zB0 v):MFr P e (.convert s d x):=by
 intro e' h h' h1 v hm q
 have hd:∀ el,P.underlying d≠some (.slice el):=fun el he=>by simp only[kindOf,he] at hk;cases hk
 simp only[mop] at q |-
 split at q
 ·rename_i y h2
  rw[hm _ _ h2]
  simp only
  have hn:=hx _ h2
  cases y with
  |int k n=>
   rw[zrN] at q |-
   split at q
   ·cases q;rfl
   ·cases q
  |str l=>
   rw[zrO hd] at q |-
   split at q
   ·cases q;rfl
   ·cases q
  |_=>cases hn
 ·cases q
theorem zw7{P:Program}{e:Operand->Option AV}{c:Call}(hc:c.callee=.builtin .len)(hx:∀ x,zje e c.args.toList=some [x]->zpU x)(hl:∃ x,zje e c.args.toList=some [x]):MFr P e (.call c):=by
 intro e' h h' h1 v hm q
 obtain⟨x,hx1⟩:=hl
 simp only[mop] at q |-
 rw[hc,hx1] at q
 rw[hc,zaZ hm hx1]
 simp only at q |-
 cases ht:c.argTypes.toList with
 |nil=>rw[ht] at q;cases q
 |cons t ts=>
  rw[ht] at q
  simp only[k9] at q |-
  rw[zrY (h':=h') (hx _ hx1)] at q
  exact zga q
theorem zbY{D i k:Nat}:bit (D ||| (1 <<< i)) k=(bit D k||decide (i=k)):=by
 simp only[bit,vv];rw[yY,vG]
theorem zkg{D i k:Nat}:bit ((1 <<< i) ||| D) k=(decide (i=k)||bit D k):=by
 simp only[bit,vv];rw[yY,vG]
theorem zh7{a b k:Nat}:bit (a &&& b) k=(bit a k&&bit b k):=Nat.testBit_and ..
theorem zvv{a b k:Nat}:bit (a ||| b) k=(bit a k||bit b k):=vv ..
theorem zaK{k:Nat}:bit 0 k=false:=Nat.zero_testBit k
theorem zng{i k:Nat}:bit ((1 <<< i)-1) k=decide (k<i):=by
 rw[yY];exact Nat.testBit_two_pow_sub_one ..
theorem zyK{b i k:Nat}(h:yQ b (1 <<< i)=true)(hk:bit b k=true):k<i:=by
 have h:=kS h
 rw[yY] at h
 refine Nat.lt_of_not_le fun hle=>?_
 have:b.testBit k=false:=Nat.testBit_lt_two_pow (yp h (Nat.pow_le_pow_right (by omega) hle))
 rw[show b.testBit k=true from hk] at this;cases this
theorem zc3{a b k:Nat}(h:zxF a b=true)(hk:bit a k=true):bit b k=true:=by
 have h:=yg h
 rw[<- h,zh7] at hk
 simp only[yc] at hk
 exact hk.2
theorem zeR{i:Nat}:∀ {I:List (Option Nat×Nat)} {k0 k:Nat},bit (zgT i I k0) k=true->∃ (j:Nat) (d:Option Nat) (m:Nat),k=k0+j/\I[j]?=some (d,m)/\bit m i=true
 | [],k0,k,h=>by simp only[zgT,zaK] at h;cases h
 |(d,m)::I,k0,k,h=>by
  have rest:bit (zgT i I (k0+1)) k=true->∃ (j:Nat) (d':Option Nat) (m':Nat),k=k0+j/\((d,m)::I)[j]?=some (d',m')/\bit m' i=true:=fun h=>by
   obtain⟨j,d',m',h1,h2,h3⟩:=zeR h
   exact⟨j+1,d',m',by omega,by simpa using h2,h3⟩
  unfold zgT at h
  split at h
  ·rename_i hb
   rw[zkg] at h
   simp only[yn,decide_eq_true_eq] at h
   rcases h with rfl|h
   ·exact⟨0,d,m,rfl,rfl,hb⟩
   ·exact rest h
  ·exact rest h
theorem zgn{P:Program}:∀ {l:List Oper} {i0 k:Nat},bit (jM P l i0) k=true↔∃ (j:Nat) (o:Oper),k=i0+j/\l[j]?=some o/\kindOf P o.op=.act
 | [],i0,k=>by simp [jM,zaK]
 |o::l,i0,k=>by
  have rest:=zgn (P:=P) (l:=l) (i0:=i0+1) (k:=k)
  have step:(∃ (j:Nat) (o':Oper),k=i0+j/\(o::l)[j]?=some o'/\kindOf P o'.op=.act)↔(k=i0/\kindOf P o.op=.act)\/∃ (j:Nat) (o':Oper),k=i0+1+j/\l[j]?=some o'/\kindOf P o'.op=.act:=by
   constructor
   ·rintro⟨j,o',h1,h2,h3⟩
    cases j with
    |zero=>simp at h2;subst h2;exact .inl ⟨by omega,h3⟩
    |succ j=>exact .inr ⟨j,o',by omega,by simpa using h2,h3⟩
   ·rintro(⟨h1,h2⟩|⟨j,o',h1,h2,h3⟩)
    ·exact⟨0,o,by omega,rfl,h2⟩
    ·exact⟨j+1,o',by omega,by simpa using h2,h3⟩
  rw[step,<- rest,show jM P (o::l) i0=(match kindOf P o.op with|.act=>(1 <<< i0) ||| jM P l (i0+1)|_=>jM P l (i0+1)) from rfl]
  split
  ·rename_i hk
   rw[zkg]
   simp only[yn,decide_eq_true_eq]
   constructor
   ·rintro(rfl|h)
    ·exact .inl ⟨rfl,hk⟩
    ·exact .inr h
   ·rintro(⟨h,_⟩|h)
    ·exact .inl h.symm
    ·exact .inr h
  ·rename_i hk
   exact⟨.inr,fun h=>h.elim (fun h=>absurd h.2 hk) id⟩
theorem zjC{P:Program}:∀ {l:List Oper} {i0 k:Nat},bit (xX P l i0) k=true↔∃ (j:Nat) (o:Oper) (t:TypeId),k=i0+j/\l[j]?=some o/\kindOf P o.op=.hole t
 | [],i0,k=>by simp [xX,zaK]
 |o::l,i0,k=>by
  have rest:=zjC (P:=P) (l:=l) (i0:=i0+1) (k:=k)
  have step:(∃ (j:Nat) (o':Oper) (t:TypeId),k=i0+j/\(o::l)[j]?=some o'/\kindOf P o'.op=.hole t)↔(k=i0/\∃ t,kindOf P o.op=.hole t)\/∃ (j:Nat) (o':Oper) (t:TypeId),k=i0+1+j/\l[j]?=some o'/\kindOf P o'.op=.hole t:=by
   constructor
   ·rintro⟨j,o',t,h1,h2,h3⟩
    cases j with
    |zero=>simp at h2;subst h2;exact .inl ⟨by omega,t,h3⟩
    |succ j=>exact .inr ⟨j,o',t,by omega,by simpa using h2,h3⟩
   ·rintro(⟨h1,t,h2⟩|⟨j,o',t,h1,h2,h3⟩)
    ·exact⟨0,o,t,by omega,rfl,h2⟩
    ·exact⟨j+1,o',t,by omega,by simpa using h2,h3⟩
  rw[step,<- rest,show xX P (o::l) i0=(match kindOf P o.op with|.hole _=>(1 <<< i0) ||| xX P l (i0+1)|_=>xX P l (i0+1)) from rfl]
  split
  ·rename_i t hk
   rw[zkg]
   simp only[yn,decide_eq_true_eq]
   constructor
   ·rintro(rfl|h)
    ·exact .inl ⟨rfl,t,hk⟩
    ·exact .inr h
   ·rintro(⟨h,_⟩|h)
    ·exact .inl h.symm
    ·exact .inr h
  ·rename_i hk
   exact⟨.inr,fun h=>h.elim (fun h=>absurd h.2.choose_spec (hk _)) id⟩
structure OkK(I:List (Option Nat×Nat))(am hm D i b:Nat):Prop where
 sub:∀ k,bit b k=true->bit D k=true
 new:bit D i=false
 low:∀ k,bit b k=true->k<i
 act:bit am i=true->(∀ k,bit D k=true->bit am k=true->bit b k=true)/\∀ k,bit am k=true->(bit D k=true↔k<i)
 hole:bit am i=false->bit hm i=true->∀ k,bit am k=true->bit D k=true\/∃ (d:Option Nat) (m:Nat),I[k]?=some (d,m)/\bit m i=true
 quiet:bit am i=false->bit hm i=false->∀ k,bit D k=true->bit am k=true->bit b k=true
theorem zux{I:List (Option Nat×Nat)}{am hm D i b:Nat}(h:okK I am hm D i b=true):OkK I am hm D i b:=by
 unfold okK at h
 simp only[yc,vK] at h
 obtain⟨h1,h2,h3,h4⟩:=h
 refine⟨fun k=>zc3 h1,h2,fun k=>zyK h3,fun ha=>?_,fun ha hh=>?_,fun ha hh=>?_⟩
 ·rw[ha] at h4
  simp only[yc] at h4
  refine⟨fun k h5 h6=>zc3 h4.1 (by rw[zh7,h5,h6];rfl),fun k hk=>?_⟩
  have:=congrArg (fun x=>bit x k) (yg h4.2)
  simp only[zh7,zng,hk,vw,Bool.true_and] at this
  rw[this];exact decide_eq_true_iff
 ·rw[ha,hh] at h4
  intro k hk
  have:=zc3 h4 hk
  rw[zvv] at this
  simp only[yn] at this
  refine this.imp id fun h=>?_
  obtain⟨j,d,m,e,h5,h6⟩:=zeR h
  rw[yv] at e;subst e
  exact⟨d,m,h5,h6⟩
 ·rw[ha,hh] at h4
  exact fun k h5 h6=>zc3 h4 (by rw[zh7,h5,h6];rfl)
theorem zqg{I:List (Option Nat×Nat)}{am i b:Nat}(h:zmE I am i b=false):∀ k,bit am k=true->bit b k=true\/(i<=k/\∃ (d:Option Nat) (m:Nat),I[k]?=some (d,m)/\bit m i=true):=by
 unfold zmE at h
 simp only[Bool.not_eq_false',yc] at h
 intro k hk
 have h2:=zc3 h.2 hk
 rw[zvv] at h2
 simp only[yn] at h2
 rcases h2 with h2|h2
 ·exact .inl h2
 ·by_cases hlt:k<i
  ·exact .inl (zc3 h.1 (by rw[zh7,zng,hk];simpa using hlt))
  ·obtain⟨j,d,m,e,h5,h6⟩:=zeR h2
   rw[yv] at e;subst e
   exact .inr ⟨by omega,d,m,h5,h6⟩
theorem zk2{i b t:Nat}:∀ {I:List (Option Nat×Nat)} {k0:Nat},okT i b t I k0=true->∀ (j m:Nat),I[j]?=some (some t,m)->bit b (k0+j)=true\/bit m i=true
 | [],k0,h,j,m,hj=>by simp at hj
 |(some d,m0)::I,k0,h,j,m,hj=>by
  unfold okT at h
  cases j with
  |zero=>
   simp at hj
   obtain⟨rfl,rfl⟩:=hj
   rw[vg] at h
   simp only[yc,yn] at h
   exact h.1
  |succ j=>
   have hr:okT i b t I (k0+1)=true:=by
    split at h
    ·simp only[yc] at h;exact h.2
    ·exact h
   have:=zk2 hr j m (by simpa using hj)
   rwa [show k0+1+j=k0+(j+1) by omega] at this
 |(none,m0)::I,k0,h,j,m,hj=>by
  cases j with
  |zero=>simp at hj
  |succ j=>
   have:=zk2 (I:=I) h j m (by simpa using hj)
   rwa [show k0+1+j=k0+(j+1) by omega] at this
theorem zgu{i b t:Nat}{old:Option AV}:∀ {I:List (Option Nat×Nat)} {k:Nat} {vs:List AV},(∀ (j m:Nat),I[j]? ≠ some (some t,m))->zhv i b t old I k vs=old
 | [],_,_,_=>rfl
 |(some d,m)::I,k,vs,h=>by
  unfold zhv
  have:ye d t=false:=by
   cases e:ye d t with
   |false=>rfl
   |true=>exact absurd (by rw[yg e];rfl) (h 0 m)
  rw[this]
  exact zgu fun j m'=>by simpa using h (j+1) m'
 |(none,m)::I,k,vs,h=>by
  unfold zhv
  exact zgu fun j m'=>by simpa using h (j+1) m'
theorem ziw{i b t:Nat}{old:Option AV}:∀ {I:List (Option Nat×Nat)} {k:Nat} {vs:List AV} {j m:Nat},I[j]?=some (some t,m)->(∀ (j' m':Nat),I[j']?=some (some t,m')->j'=j) ->
  zhv i b t old I k vs=match bit b (k+j) with
   |true=>vs[j]?
   |false=>match bit m i with
    |true=>old
    |false=>none
 | [],k,vs,j,m,hj,_=>by simp at hj
 |(some d,m0)::I,k,vs,j,m,hj,hu=>by
  unfold zhv
  cases j with
  |zero=>
   simp at hj
   obtain⟨rfl,rfl⟩:=hj
   rw[vg]
   simp only[vB]
   rw[List.head?_eq_getElem?]
   rfl
  |succ j=>
   have:ye d t=false:=by
    cases e:ye d t with
    |false=>rfl
    |true=>have:=hu 0 m0 (by rw[yg e];rfl);omega
   rw[this]
   simp only
   rw[ziw (by simpa using hj) (fun j' m' h=>by have:=hu (j'+1) m' (by simpa using h);omega),vH,show k+1+j=k+(j+1) by omega]
 |(none,m0)::I,k,vs,j,m,hj,hu=>by
  unfold zhv
  cases j with
  |zero=>simp at hj
  |succ j=>rw[ziw (by simpa using hj) (fun j' m' h=>by have:=hu (j'+1) m' (by simpa using h);omega),vH,show k+1+j=k+(j+1) by omega]
def _root_.Go.Mx.Rec.hp:Rec->Option zg
 |.act _ h=>some h
 |_=>none
def hF(E:Nat->Rec)(h0:zg):Nat->zg
 |0=>h0
 |n+1=>match(E n).hp with
  |some h=>h
  |none=>hF E h0 n
def kH(ρ:Nat->Rec)(n:Nat):List Rec:=(yy n).map ρ
theorem j8{ρ:Nat->Rec}{n:Nat}:(kH ρ n).length=n:=by simp [kH]
theorem zf5{ρ:Nat->Rec}{n k:Nat}(h:k<n):(kH ρ n)[k]?=some (ρ k):=by simp [kH,yq h]
theorem zgJ{ρ:Nat->Rec}{n:Nat}:kH ρ (n+1)=kH ρ n++[ρ n]:=by simp [kH,List.range_succ]
theorem zjU{ρ:Nat->Rec}{n k:Nat}(h:k<n):(kH ρ n).drop k=ρ k::(kH ρ n).drop (k+1):=by
 rw[ym (by rw[j8];exact h)]
 congr 1
 have:=zf5 (ρ:=ρ) h
 rw[yb (by rw[j8];exact h)] at this
 exact yR this
theorem zlR{r:Rec}:∀ {l:List Rec} {h:zg},zi8 h (l++[r])=match r.hp with|some h'=>h' | none=>zi8 h l
 | [],h=>by cases r<;>rfl
 |a::l,h=>by cases a<;>simp only[vd,zi8]<;>exact zlR
theorem zkA{ρ:Nat->Rec}{h0:zg}:∀ {n:Nat},zi8 h0 (kH ρ n)=hF ρ h0 n
 |0=>rfl
 |n+1=>by rw[zgJ,zlR,zkA];rfl
theorem zfH{E E':Nat->Rec}{h0:zg}:∀ {n:Nat},(∀ k,k<n->(E k).hp=(E' k).hp)->hF E h0 n=hF E' h0 n
 |0,_=>rfl
 |n+1,h=>by
  unfold hF
  rw[h n (Nat.lt_succ_self _),zfH fun k hk=>h k (by omega)]
theorem zrp{E:Nat->Rec}{h0:zg}{a:Nat}:∀ {n:Nat},(∀ k,a<=k->k<n->(E k).hp=none)->a<=n->hF E h0 n=hF E h0 a
 |0,_,ha=>by rw[Nat.le_zero.1 ha]
 |n+1,h,ha=>by
  by_cases e:a=n+1
  ·rw[e]
  ·rw[<- zrp (n:=n) (fun k h1 h2=>h k h1 (by omega)) (by omega)]
   show(match(E n).hp with|some h=>h|none=>hF E h0 n)=_
   rw[h n (by omega) (by omega)]
theorem zyS{E:Nat->Rec}{h0 h':zg}{i n:Nat}(hi:(E i).hp=some h')(hn:i<n)(h:∀ k,i<k->k<n->(E k).hp=none):hF E h0 n=h':=by
 rw[zrp (a:=i+1) (fun k h1 h2=>h k (by omega) h2) (by omega)]
 show(match(E i).hp with|some h=>h|none=>hF E h0 i)=_
 rw[hi]
theorem zvG{cond:zg->Bool}{i b n:Nat}{ρ:Nat->Rec}{I:List (Option Nat×Nat)}{h0:zg}(hI:I.length=n)
  (hA:∀ k,k<n->(ρ k).hp≠none->bit b k=false->(∀ (j:Nat) (d:Option Nat) (m:Nat),j<k->I[j]?=some (d,m)->(ρ j).hp≠none->bit b j=false->bit m i=false)->cond (hF ρ h0 k)=true)
  (hB:(∀ (j:Nat) (d:Option Nat) (m:Nat),j<n->I[j]?=some (d,m)->(ρ j).hp≠none->bit b j=false->bit m i=false)->cond (hF ρ h0 n)=true):
  goQ cond i b (kH ρ n) I 0 h0=true:=by
 have key:∀ (c k:Nat),k+c=n->(∀ (j:Nat) (d:Option Nat) (m:Nat),j<k->I[j]?=some (d,m)->(ρ j).hp≠none->bit b j=false->bit m i=false)->goQ cond i b ((kH ρ n).drop k) (I.drop k) k (hF ρ h0 k)=true:=by
  intro c
  induction c with
  |zero=>
   intro k hk hp
   have hk:k=n:=by omega
   subst hk
   rw[yO (by rw[j8];exact yd _),yO (by omega)]
   exact hB hp
  |succ c ih=>
   intro k hk hp
   have hkn:k<n:=by omega
   have hIk:I.drop k=I[k]'(by omega)::I.drop (k+1):=ym (by omega)
   obtain⟨d,m,hdm⟩:∃ d m,I[k]?=some (d,m):=⟨_,_,yb (by omega)⟩
   rw[zjU hkn,hIk]
   have e:I[k]'(by omega)=(d,m):=by
    rw[yb (by omega)] at hdm;exact yR hdm
   rw[e]
   have nx:(∀ x,(ρ k).hp=some x->bit b k=true\/bit m i=false)->goQ cond i b ((kH ρ n).drop (k+1)) (I.drop (k+1)) (k+1) (hF ρ h0 (k+1))=true:=fun hq=>ih (k+1) (by omega) fun j d' m' hj hI' ha hb=>by
    by_cases ej:j=k
    ·subst ej
     rw[hdm] at hI';cases hI'
     cases hx:(ρ j).hp with
     |none=>exact absurd hx ha
     |some x=>
           rcases hq x hx with h|h
           ·rw[hb] at h;cases h
           ·exact h
    ·exact hp j d' m' (by omega) hI' ha hb
   cases hr:ρ k with
   |act v h'=>
    have hF1:hF ρ h0 (k+1)=h':=by simp only[hF,hr,Rec.hp]
    rw[hF1] at nx
    unfold goQ
    cases hb:bit b k with
    |true=>exact nx fun _ _=>.inl hb
    |false=>
     have hc:=hA k hkn (by rw[hr];simp [Rec.hp]) hb hp
     cases hm:bit m i with
     |true=>exact hc
     |false=>rw[hc,nx fun _ _=>.inr hm];rfl
   |off=>
    have hF1:hF ρ h0 (k+1)=hF ρ h0 k:=by simp only[hF,hr,Rec.hp]
    rw[hF1] at nx
    exact nx fun x hx=>by rw[hr] at hx;cases hx
   |hole a c=>
    have hF1:hF ρ h0 (k+1)=hF ρ h0 k:=by simp only[hF,hr,Rec.hp]
    rw[hF1] at nx
    exact nx fun x hx=>by rw[hr] at hx;cases hx
   |quiet v=>
    have hF1:hF ρ h0 (k+1)=hF ρ h0 k:=by simp only[hF,hr,Rec.hp]
    rw[hF1] at nx
    exact nx fun x hx=>by rw[hr] at hx;cases hx
 exact key n 0 (by omega) fun j _ _ h=>absurd h (vN _)
theorem zvd{P:Program}{q:FuncId->Bool}{call:Cal->List AV->zg->Option CR}{ops:List Oper}{I:List (Option Nat×Nat)}{env:Arr AV}{base:Nat}{h0:zg}{ρ:Nat->Rec}:
  (∀ (i:Nat) (o:Oper),ops[i]?=some o->zcb P q call ops I env base h0 (kH ρ i) o=some (ρ i))->steps P q call ops I env base h0 ops []=some (kH ρ ops.length):=by
 intro h
 have key:∀ (c k:Nat),k+c=ops.length->steps P q call ops I env base h0 (ops.drop k) (kH ρ k)=some (kH ρ ops.length):=by
  intro c
  induction c with
  |zero=>intro k hk;rw[yO (by omega),show k=ops.length by omega];rfl
  |succ c ih=>
   intro k hk
   rw[ym (by omega)]
   unfold steps
   rw[h k _ (yb (by omega))]
   simp only
   rw[<- zgJ]
   exact ih (k+1) (by omega)
 exact key ops.length 0 (by omega)
theorem zwE{P:Program}{q:FuncId->Bool}{call:Cal->List AV->zg->Option CR}{I:List (Option Nat×Nat)}{env:Arr AV}{vs:List AV}{h0:zg}{recs:List Rec}{ops:List Oper}{ρ:Nat->Rec}(hI:I.length=ops.length)
  (h:∀ (i:Nat) (o:Oper) (d:Option Nat) (b:Nat),ops[i]?=some o->I[i]?=some (d,b)->zvz P q call I env vs h0 recs i b o (ρ i)=true):zq0 P q call I env vs h0 recs ops I (kH ρ ops.length) 0=true:=by
 have key:∀ (c k:Nat),k+c=ops.length->zq0 P q call I env vs h0 recs (ops.drop k) (I.drop k) ((kH ρ ops.length).drop k) k=true:=by
  intro c
  induction c with
  |zero=>intro k hk;rw[yO (by omega)];cases I.drop k<;>cases(kH ρ ops.length).drop k<;>rfl
  |succ c ih=>
   intro k hk
   rw[ym (l:=ops) (by omega),ym (l:=I) (by omega),zjU (by omega)]
   have e:∃ d b,I[k]'(by omega)=(d,b):=⟨_,_,rfl⟩
   obtain⟨d,b,e⟩:=e
   rw[e]
   simp only[zq0,yc]
   exact⟨h k _ d b (yb (by omega)) (by rw[yb (by omega),e]),ih (k+1) (by omega)⟩
 exact key ops.length 0 (by omega)
theorem zrf:∀ {I:List (Option Nat×Nat)} {recs:List Rec} {env:Arr AV},(∀ (k d m:Nat),I[k]?=some (some d,m)->d<env.length)->∃ mf,zvE I recs env=some mf
 | [],recs,env,_=>⟨env,by cases recs<;>rfl⟩
 |(d,m)::I,[],env,_=>⟨env,rfl⟩
 |(d,m)::I,r::rs,env,h=>by
  have:∃ env1,zjp env d r.val=some env1/\env1.length=env.length:=by
   cases d with
   |none=>exact⟨env,rfl,rfl⟩
   |some d=>exact⟨env.set d r.val,by simp only[zjp];rw[if_pos (h 0 d m rfl)],Arr.length_set⟩
  obtain⟨env1,h1,h2⟩:=this
  unfold zvE
  rw[h1]
  exact zrf fun k d m hk=>by rw[h2];exact h (k+1) d m (by simpa using hk)
def Fx(X:Gst)(U:Nat->Prop)(m:Nat):Prop:=m<X.h.length/\¬ U m/\∀ (i v:Nat) (b:SB),X.sh[i]?=some b->X.σ[i]?=some (some (m,v))->b.md≠0
theorem Fx.step{X Y:Gst}{U:Nat->Prop}{m:Nat}(hS:Stp X Y)(h:Fx X U m):Fx Y U m/\Y.h[m]?=X.h[m]?:=by
 refine⟨⟨yp h.1 hS.fm.len,h.2.1,fun i v b hb ho=>?_⟩,hS.fm.h m h.1 fun i v b hb ho=>h.2.2 i v b hb ho⟩
 obtain⟨v',h1⟩:=hS.fm.new i m v ho h.1
 have hi:i<X.sh.length:=by rw[<- hS.le.shl];exact(ya.1 h1).1
 have h2:=h.2.2 i v' _ (yb hi) h1
 obtain⟨b',h3,h4⟩:=hS.fm.md i _ (yb hi) h2
 rw[hb] at h3;cases h3;exact h4
theorem zAX{X0 X:Gst}(hS:Stp X0 X){m:Nat}{l:List SV}{l':List AV}{tt:Option TypeId}{mk:Option TypeId}(hk:mk.or tt=tt)(hm0:X0.h.length<=m)(hm:m<X.h.length)(hns:∀ (i v:Nat),X.σ[i]? ≠ some (some (m,v)))(hnΦ:¬ X.Φ m)
  (hrow:X.h[m]?=some (.row l' 0 0 0 false tt)) (hl:RVs X l l'):Stp X0 ⟨X.h,X.Φ,X.σ++[some (m,0)],X.sh++[.cells l 0 mk]⟩/\X.le ⟨X.h,X.Φ,X.σ++[some (m,0)],X.sh++[.cells l 0 mk]⟩:=by
 have hr:=hS.hr
 have hσ:∀ (i:Nat),i<X.σ.length->(X.σ++[some (m,0)])[i]?=X.σ[i]?:=fun i hi=>yi hi
 have hle:X.le ⟨X.h,X.Φ,X.σ++[some (m,0)],X.sh++[.cells l 0 mk]⟩:=by
  refine⟨fun m hm=>rfl,fun _ h=>h,by simp,fun loc m v h=>⟨v,?_⟩,fun loc u l k md hl hs=>?_,hr.len⟩
  ·rw[hσ _ (ya.1 h).1];exact h
  ·dsimp only at hs
   rw[yi hl] at hs
   exact⟨l,k,md,hs,yd _,fun _=>⟨rfl,hσ _ (by rw[hr.len];exact hl)⟩⟩
 refine⟨⟨Gst.le_trans hS.le hle,⟨by simp [hr.len],fun i j m v v' h1 h2=>?_,fun i m v h1=>?_,hr.Φlt,fun i b' o h1 h2=>?_,fun i m v b' h1 h2 h3=>?_⟩,⟨hS.fm.len,hS.fm.h,fun i b' hb hm=>?_,fun i m v h1 hm=>?_,fun i h=>?_,hS.fm.phi⟩⟩,hle⟩
 ·rcases qq h1 with q1|⟨e1,q1⟩<;>rcases qq h2 with q2|⟨e2,q2⟩
  ·exact hr.inj _ _ _ _ _ q1 q2
  ·cases q2;exact absurd q1 (hns _ _)
  ·cases q1;exact absurd q2 (hns _ _)
  ·exact e1.trans e2.symm
 ·rcases qq h1 with h1|⟨_,h1⟩
  ·exact hr.lt _ _ _ h1
  ·cases h1;exact hm
 ·rcases qq h1 with h1|⟨rfl,rfl⟩
  ·have hi:=(ya.1 h1).1
   dsimp only at h2
   rw[hσ _ (by rw[hr.len];exact hi)] at h2
   exact(hr.blk i b' o h1 h2).le hle fun m v e=>rfl
  ·dsimp only at h2
   rw[<- hr.len,yu (yd _)] at h2
   simp at h2;subst h2
   exact⟨m,l',tt,rfl,by rw[hk];exact hrow,hl.le hle⟩
 ·rcases qq h1 with h1|⟨rfl,rfl⟩
  ·have hi:=(ya.1 h1).1
   dsimp only at h2
   rw[hσ _ (by rw[hr.len];exact hi)] at h2
   exact hr.own i m v b' h1 h2 h3
  ·dsimp only at h2
   rw[<- hr.len,yu (yd _)] at h2
   simp at h2
   obtain⟨rfl,rfl⟩:=h2
   exact absurd h3 hnΦ
 ·obtain⟨b2,h1,h2⟩:=hS.fm.md i b' hb hm
  exact⟨b2,by show(X.sh++[_])[i]?=_;rw[yi (ya.1 h1).1];exact h1,h2⟩
 ·rcases qq h1 with q1|⟨_,q1⟩
  ·exact hS.fm.new i m v q1 hm
  ·cases q1;omega
 ·obtain⟨h1,h2⟩:=hS.fm.gone i h
  have hi:=(ya.1 h1).1
  exact⟨(yi hi).trans h1,(hσ _ (by rw[hr.len];exact hi)).trans h2⟩
theorem zoD{X:Gst}{b:SB}{o:Option (Nat×Nat)}{k:Nat}(hk:k≠2)(h:RB X b o):RB X (b.zez k) o:=by
 cases b with
 |cells l md mk=>exact h
 |seq u l n md=>cases o with
  |none=>exact h
  |some p=>obtain⟨m,v⟩:=p;obtain⟨c,mv,tt,h1,h2,h3,_⟩:=h;exact⟨c,mv,tt,h1,h2,h3,fun e=>absurd e hk⟩
 |map ks vs md=>exact h
 |kv u v l md=>exact h
 |loop env id md=>exact h
 |gone=>exact h
theorem zps{b:SB}{k:Nat}(hb:b≠.gone):(b.zez k).md=k:=by cases b<;>first|rfl|exact absurd rfl hb
theorem shut{X:Gst}(hr:RH X){loc:Nat}{b:SB}(hb:X.sh[loc]?=some b)(h0:b.md=0):Stp X ⟨X.h,X.Φ,X.σ,X.sh.set loc (b.zez 1)⟩:=by
 have hng:b≠.gone:=fun e=>by rw[e] at h0;cases h0
 have hi:=(ya.1 hb).1
 have ho:X.σ[loc]?=some (X.σ[loc]'(by rw[hr.len];exact hi)):=yb _
 refine Stp.turn (b':=b.zez 1) (o':=X.σ[loc]'(by rw[hr.len];exact hi)) hr hb ho hng (fun _ _ _=>rfl) (fun _ _ _=>.inl rfl) (yd _) (fun m=>⟨.inl,fun h=>h.elim id fun h=>by rw[zps hng] at h;exact absurd h.1 (by omega)⟩) ?_ rfl
  (fun m v e=>⟨hr.lt loc m v (e ▸ ho),.inl ⟨v,e⟩⟩) (fun m v e=>⟨v,e⟩) (fun u l k md e=>?_) (fun h=>absurd h0 h) (fun h=>h.elim (fun h=>by omega) fun h=>absurd h hng) fun hle=>?_
 ·exact(wK ho).symm
 ·cases b with
  |seq u' l' k' md'=>cases e;exact⟨_,_,md',rfl,yd _,fun _=>⟨rfl,rfl⟩⟩
  |_=>cases e
 ·exact zoD (by omega) ((hr.blk loc b _ hb ho).le hle fun _ _ _=>rfl)
theorem zgK:∀ {h0 h:SH} {i:Nat} {b:SB},h[i]?=some b->∃ b',(xD h0 h)[i]?=some b'/\(b'=b\/(b.md=1/\b'=b.zez 0/\∀ b0,h0[i]?=some b0->b0.md=0))
 | [],[],i,b,h=>by simp at h
 | [],b1::h,0,b,hb=>by
  simp at hb;subst hb
  unfold xD
  split
  ·rename_i e;exact⟨_,rfl,.inr ⟨e,rfl,by simp⟩⟩
  ·exact⟨_,rfl,.inl rfl⟩
 | [],b1::h,i+1,b,hb=>by
  obtain⟨b',h1,h2⟩:=zgK (h0:=[]) (h:=h) (i:=i) (b:=b) (by simpa using hb)
  exact⟨b',by unfold xD;simpa using h1,by simpa using h2⟩
 |b0::h0,b1::h,0,b,hb=>by
  simp at hb;subst hb
  unfold xD
  split
  ·rename_i e1 e2;exact⟨_,rfl,.inr ⟨e2,rfl,fun b0' h=>by simp at h;subst h;exact e1⟩⟩
  ·exact⟨_,rfl,.inl rfl⟩
 |b0::h0,b1::h,i+1,b,hb=>by
  obtain⟨b',h1,h2⟩:=zgK (h0:=h0) (h:=h) (i:=i) (b:=b) (by simpa using hb)
  exact⟨b',by unfold xD;simpa using h1,by simpa using h2⟩
 |_::_,[],i,b,h=>by simp at h
theorem zdo:∀ {h0 h:SH},(xD h0 h).length=h.length
 | [],[]=>rfl
 | [],b::h=>by unfold xD;simp [zdo (h0:=[]) (h:=h)]
 |b0::h0,b::h=>by unfold xD;simp [zdo (h0:=h0) (h:=h)]
 |_::_,[]=>rfl
theorem zza{X0 X:Gst}(hS:Stp X0 X){h':SH}(hlen:h'.length=X.sh.length)(hrel:∀ (i:Nat) (b:SB),X.sh[i]?=some b->∃ b',h'[i]?=some b'/\(b'=b\/(b.md=1/\b'=b.zez 0/\∀ b0,X0.sh[i]?=some b0->b0.md=0))):
  Stp X0 ⟨X.h,X.Φ,X.σ,h'⟩/\X.le ⟨X.h,X.Φ,X.σ,h'⟩:=by
 have hr:=hS.hr
 have back:∀ {i:Nat} {b':SB},h'[i]?=some b'->∃ b,X.sh[i]?=some b/\(b'=b\/(b.md=1/\b'=b.zez 0/\∀ b0,X0.sh[i]?=some b0->b0.md=0)):=fun {i b'} h=>by
  have hi:i<X.sh.length:=by rw[<- hlen];exact(ya.1 h).1
  obtain⟨b2,h1,h2⟩:=hrel i _ (yb hi)
  rw[h] at h1;cases h1
  exact⟨_,yb hi,h2⟩
 have hle:X.le ⟨X.h,X.Φ,X.σ,h'⟩:=by
  refine⟨fun m hm=>rfl,fun _ h=>h,yd _,fun loc m v h=>⟨v,h⟩,fun loc u l k md hl hs=>?_,hr.len⟩
  obtain⟨b,h1,rfl|⟨h2,h3,_⟩⟩:=back hs
  ·exact⟨l,k,md,h1,yd _,fun _=>⟨rfl,rfl⟩⟩
  ·cases b<;>cases h3
   exact⟨_,_,_,h1,yd _,fun _=>⟨rfl,rfl⟩⟩
 refine⟨⟨Gst.le_trans hS.le hle,⟨by show X.σ.length=h'.length;rw[hlen,hr.len],hr.inj,hr.lt,hr.Φlt,fun i b' o h1 h2=>?_,fun i m v b' h1 h2 h3=>?_⟩,⟨hS.fm.len,hS.fm.h,fun i b0 hb hm=>?_,hS.fm.new,fun i h=>?_,hS.fm.phi⟩⟩,hle⟩
 ·obtain⟨b,h3,rfl|⟨h4,rfl,_⟩⟩:=back h1
  ·exact(hr.blk i _ o h3 h2).le hle fun _ _ _=>rfl
  ·exact zoD (by omega) ((hr.blk i b o h3 h2).le hle fun _ _ _=>rfl)
 ·obtain⟨b,h4,rfl|⟨h5,rfl,_⟩⟩:=back h1
  ·exact hr.own i m v _ h4 h2 h3
  ·rcases hr.own i m v b h4 h2 h3 with h|rfl
   ·omega
   ·exact .inr rfl
 ·obtain⟨b,h1,h2⟩:=hS.fm.md i b0 hb hm
  obtain⟨b',h3,rfl|⟨_,_,h4⟩⟩:=hrel i b h1
  ·exact⟨_,h3,h2⟩
  ·exact absurd (h4 b0 hb) hm
 ·obtain⟨h1,h2⟩:=hS.fm.gone i h
  obtain⟨b',h3,rfl|⟨_,rfl,_⟩⟩:=hrel i _ h1
  ·exact⟨h3,h2⟩
  ·exact⟨h3,h2⟩
theorem zxl{X0 X:Gst}(hS:Stp X0 X):Stp X0 ⟨X.h,X.Φ,X.σ,xD X0.sh X.sh⟩/\X.le ⟨X.h,X.Φ,X.σ,xD X0.sh X.sh⟩:=
 zza hS zdo fun i b hb=>zgK hb
theorem zmv{h:SH}{loc:Nat}:(zsi h loc).length=h.length:=by
 unfold zsi
 split
 ·split
  ·rw[List.length_set]
  ·rfl
 ·rfl
theorem zsj{h:SH}{loc i:Nat}{b:SB}(hb:h[i]?=some b):∃ b',(zsi h loc)[i]?=some b'/\(b'=b\/(b.md=1/\b'=b.zez 0/\i=loc)):=by
 unfold zsi
 split
 ·rename_i b1 hb1
  split
  ·rename_i hm
   by_cases e:i=loc
   ·subst e
    rw[hb] at hb1;cases hb1
    exact⟨b.zez 0,ve (ya.1 hb).1,.inr ⟨hm,rfl,rfl⟩⟩
   ·exact⟨b,by rw[List.getElem?_set_ne (Ne.symm e)];exact hb,.inl rfl⟩
  ·exact⟨b,hb,.inl rfl⟩
 ·exact⟨b,hb,.inl rfl⟩
theorem zd9{kept:List (Nat×Nat)}:∀ {sl:List (Nat×Nat)} {h:SH},(zd8 kept sl h).length=h.length
 | [],h=>rfl
 |p::l,h=>by
  unfold zd8
  split
  ·exact zd9
  ·rw[zd9,zmv]
theorem zf2{kept:List (Nat×Nat)}{i:Nat}:∀ {sl:List (Nat×Nat)} {h:SH} {b:SB},h[i]?=some b->∃ b',(zd8 kept sl h)[i]?=some b'/\(b'=b\/(b.md=1/\b'=b.zez 0/\zgX i kept=false/\∃ p ∈ sl,p.2=i))
 | [],h,b,hb=>⟨b,hb,.inl rfl⟩
 |p::l,h,b,hb=>by
  unfold zd8
  split
  ·obtain⟨b',h1,h2⟩:=zf2 (sl:=l) hb
   exact⟨b',h1,h2.imp id fun⟨q1,q2,q3,q,q4,q5⟩=>⟨q1,q2,q3,q,yB _ q4,q5⟩⟩
  ·rename_i hk
   obtain⟨b1,h1,h2⟩:=zsj (loc:=p.2) hb
   obtain⟨b',h3,h4⟩:=zf2 (kept:=kept) (sl:=l) h1
   refine⟨b',h3,?_⟩
   rcases h2 with rfl|⟨q1,rfl,q3⟩
   ·exact h4.imp id fun⟨q1,q2,q3,q,q4,q5⟩=>⟨q1,q2,q3,q,yB _ q4,q5⟩
   ·rcases h4 with rfl|⟨k1,k2,_⟩
    ·exact .inr ⟨q1,rfl,by rw[q3];exact hk,p,yF,q3.symm⟩
    ·cases b<;>first|(cases k1;done)|(exact .inr ⟨q1,k2,by rw[q3];exact hk,p,yF,q3.symm⟩)|exact .inl k2
theorem zcN{loc:Nat}:∀ {sl:List (Nat×Nat)},zgX loc sl=true↔∃ p ∈ sl,p.2=loc
 | []=>by simp [zgX]
 |p::l=>by
  have ih:=zcN (loc:=loc) (sl:=l)
  simp only[zgX,yn,ih,yC]
  constructor
  ·rintro(h|⟨q,h1,h2⟩)
   ·exact⟨p,.inl rfl,zj h⟩
   ·exact⟨q,.inr h1,h2⟩
  ·rintro⟨q,rfl|h1,h2⟩
   ·left;rw[h2];exact vg _
   ·exact .inr ⟨q,h1,h2⟩
theorem zfM{m:Nat}{p:Nat×Nat}:∀ {sl:List (Nat×Nat)},p ∈ zbv m sl↔p ∈ sl/\bit m p.1=false
 | []=>by simp [zbv]
 |q::l=>by
  have ih:=zfM (m:=m) (p:=p) (sl:=l)
  unfold zbv
  split
  ·rename_i hb
   rw[ih,yC]
   exact⟨fun h=>⟨.inr h.1,h.2⟩,fun h=>⟨h.1.resolve_left (fun e=>(by have h2:=h.2;rw[e,hb] at h2;cases h2)),h.2⟩⟩
  ·rename_i hb
   rw[yC,ih,yC]
   exact⟨fun h=>h.elim (fun e=>⟨.inl e,by rw[e];exact hb⟩) fun h=>⟨.inr h.1,h.2⟩,fun h=>h.1.elim .inl fun h'=>.inr ⟨h',h.2⟩⟩
end Go.Sx
namespace Go.Sx
open Go Go.Gx Go.Mx
variable [kF]
theorem zfO{P:Program}{op:Op}{t:TypeId}(hk:kindOf P op=.hole t):op=.alloc t:=by
 cases op<;>first
  |(cases hk;rfl)
  |(cases hk;done)
  |(simp only[kindOf] at hk;repeat' split at hk;all_goals (cases hk;done))
def nAl(P:Program):List Oper->Nat
 | []=>0
 |o::l=>match kindOf P o.op with
  |.hole _=>nAl P l+1
  |_=>nAl P l
theorem zkZ{P:Program}{o:Oper}:∀ {l:List Oper},nAl P (l++[o])=match kindOf P o.op with|.hole _=>nAl P l+1|_=>nAl P l
 | []=>by rfl
 |a::l=>by
  have ih:=zkZ (P:=P) (o:=o) (l:=l)
  rw[vd]
  show(match kindOf P a.op with|.hole _=>nAl P (l++[o])+1|_=>nAl P (l++[o]))=_
  rw[ih]
  show _=(match kindOf P o.op with|.hole _=>(match kindOf P a.op with|.hole _=>nAl P l+1|_=>nAl P l)+1|_=>(match kindOf P a.op with|.hole _=>nAl P l+1|_=>nAl P l))
  cases kindOf P a.op<;>cases kindOf P o.op<;>rfl
theorem zvN{P:Program}:∀ {a b:List Oper},nAl P a<=nAl P (a++b)
 | [],b=>vl _
 |o::a,b=>by
  have ih:=zvN (P:=P) (a:=a) (b:=b)
  rw[vd]
  show(match kindOf P o.op with|.hole _=>nAl P a+1|_=>nAl P a)<=(match kindOf P o.op with|.hole _=>nAl P (a++b)+1|_=>nAl P (a++b))
  cases kindOf P o.op<;>simp only<;>omega
theorem zmY{α:Type}{l:List α}{i:Nat}{o:α}(h:l[i]?=some o):l.take (i+1)=l.take i++[o]:=by
 rw[List.take_add_one,h];rfl
theorem zvO{P:Program}{l:List Oper}{i j:Nat}{o:Oper}{t:TypeId}(hi:l[i]?=some o)(hk:kindOf P o.op=.hole t)(hj:i<j):nAl P (l.take i)<nAl P (l.take j):=by
 have h1:l.take j=l.take (i+1)++(l.take j).drop (i+1):=by
  have:=yT (i+1) (l.take j)
  rw[List.take_take,Nat.min_eq_left (by omega)] at this
  exact this.symm
 have h2:=zvN (P:=P) (a:=l.take (i+1)) (b:=(l.take j).drop (i+1))
 rw[<- h1,zmY hi,zkZ,hk] at h2
 exact h2
theorem zdf{P:Program}:∀ {l:List Oper} {hs:List Blk} {i:Nat} {o:Oper} {t:TypeId},xO P l=some hs->l[i]?=some o->kindOf P o.op=.hole t ->
  ∃ z,zeroOf P t=some z/\hs[nAl P (l.take i)]?=some (.row z.cells 0 0 0 false (some t))
 | [],hs,i,o,t,_,hi,_=>by simp at hi
 |a::l,hs,i,o,t,h,hi,hk=>by
  unfold xO at h
  split at h
  ·rename_i t' bs hop hbs
   split at h
   ·rename_i z hz
    cases h
    cases i with
    |zero=>
     simp at hi;subst hi
     have:=zfO hk
     rw[hop] at this;cases this
     exact⟨z,hz,rfl⟩
    |succ i=>
     obtain⟨z',h1,h2⟩:=zdf hbs (by simpa using hi) hk
     refine⟨z',h1,?_⟩
     have e:kindOf P a.op=.hole t':=by rw[hop];rfl
     rw[yV]
     show(_::bs)[(match kindOf P a.op with|.hole _=>nAl P (l.take i)+1|_=>nAl P (l.take i))]?=_
     rw[e]
     simpa using h2
   ·cases h
  ·rename_i hno
   cases i with
   |zero=>
    simp at hi;subst hi
    have:=zfO hk
    cases hh:xO P l with
    |none=>rw[hh] at h;cases h
    |some bs=>exact absurd hh (hno t bs this)
   |succ i=>
    obtain⟨z',h1,h2⟩:=zdf h (by simpa using hi) hk
    refine⟨z',h1,?_⟩
    have e:∀ t',kindOf P a.op≠.hole t':=fun t' hk'=>by
     cases hh:xO P l with
     |none=>rw[hh] at h;cases h
     |some bs=>exact hno t' bs (zfO hk') hh
    rw[yV]
    show hs[(match kindOf P a.op with|.hole _=>nAl P (l.take i)+1|_=>nAl P (l.take i))]?=_
    cases hka:kindOf P a.op with
    |hole t'=>exact absurd hka (e t')
    |_=>exact h2
theorem zqJ{b:Nat}{ρ:Nat->Rec}:∀ {n:Nat},(∀ j,j<n->(ρ j).hp≠none->bit b j=true)->zdy b 0 (kH ρ n)=true:=by
 have key:∀ (l:List Rec) (k:Nat),(∀ (j:Nat) (r:Rec),l[j]?=some r->r.hp≠none->bit b (k+j)=true)->zdy b k l=true:=by
  intro l
  induction l with
  |nil=>intro k _;rfl
  |cons r l ih=>
   intro k h
   have rest:=ih (k+1) fun j r' hj hn=>by rw[show k+1+j=k+(j+1) by omega];exact h (j+1) r' (by simpa using hj) hn
   cases r with
   |act v h'=>
    have h0:=h 0 _ rfl (by simp [Rec.hp])
    rw[vB] at h0
    simp only[zdy,h0,rest,vS]
   |_=>exact rest
 intro n h
 refine key _ 0 fun j r hj hn=>?_
 have hlt:j<n:=by have:=(ya.1 hj).1;rwa [j8] at this
 rw[zf5 hlt] at hj;cases hj
 rw[yv];exact h j hlt hn
theorem zmr{P:Program}{l:List Oper}{ρ:Nat->Rec}:∀ {n:Nat},n<=l.length->(∀ (k:Nat) (o:Oper),l[k]?=some o->((∃ t,kindOf P o.op=.hole t)↔∃ a c,ρ k=.hole a c))->zb5 (kH ρ n)=nAl P (l.take n)
 |0,_,_=>rfl
 |n+1,hn,h=>by
  have ho:l[n]?=some (l[n]'(by omega)):=yb (by omega)
  rw[zgJ,zdm,zmr (by omega) h,zmY ho,zkZ]
  have:=h n _ ho
  cases hk:kindOf P (l[n]'(by omega)).op with
  |hole t=>
   obtain⟨a,c,e⟩:=this.1 ⟨t,hk⟩
   rw[e];rfl
  |quiet=>
   cases e:ρ n with
   |hole a c=>obtain⟨t,e2⟩:=this.2 ⟨a,c,e⟩;rw[hk] at e2;cases e2
   |_=>rfl
  |act=>
   cases e:ρ n with
   |hole a c=>obtain⟨t,e2⟩:=this.2 ⟨a,c,e⟩;rw[hk] at e2;cases e2
   |_=>rfl
section
variable (P:Program) (gl:GL) (ct:CT) (hk:wJ) (l:List Oper) (env0:Arr AV) (X0:Gst) (hs:List Blk)
abbrev H0(X0:Gst)(hs:List Blk):zg:=X0.h++hs
def mH(P:Program)(l:List Oper)(X0:Gst)(i:Nat):Nat:=X0.h.length+nAl P (l.take i)
def UD(P:Program)(l:List Oper)(X0:Gst)(D:Nat)(m:Nat):Prop:=∃ (i:Nat) (o:Oper) (t:TypeId),l[i]?=some o/\kindOf P o.op=.hole t/\bit D i=false/\m=mH P l X0 i
structure DI(ρ:Nat->Rec)(D:Nat)(X:Gst)(st:SS)(me:Arr AV):Prop where
 stp:Stp X0 X
 env:RVs X st.env me.toL
 sh:X.sh=st.h
 hh:X.h=hF ρ (H0 X0 hs) l.length
 off:∀ k,bit D k=false->ρ k=.off
 e2:∀ (k t m:Nat),(infos l [])[k]?=some (some t,m)->bit D k=true->me[t]?=some (ρ k).val
 e3:∀ (t:Nat),(∀ (k m:Nat),(infos l [])[k]?=some (some t,m)->bit D k=false)->me[t]?=env0[t]?
 dl:∀ (k t m:Nat),(infos l [])[k]?=some (some t,m)->bit D k=true->t<me.length
 ml:me.length=env0.length
 cl:∀ (k:Nat) (d:Option Nat) (m:Nat),(infos l [])[k]?=some (d,m)->bit D k=true->∀ j,bit m j=true->bit D j=true/\j<k
 ai:∀ (k k':Nat),bit (jM P l 0) k=true->bit (jM P l 0) k'=true->k<k'->bit D k'=true->bit D k=true
 rk:∀ k,(ρ k).hp≠none->bit (jM P l 0) k=true
 hk:∀ (k:Nat) (o:Oper),l[k]?=some o->bit D k=true->((∃ t,kindOf P o.op=.hole t)↔∃ a c,ρ k=.hole a c)
 un:∀ (i:Nat) (o:Oper) (t:TypeId),l[i]?=some o->kindOf P o.op=.hole t->bit D i=false ->
  mH P l X0 i<X.h.length/\(∀ (j v:Nat),X.σ[j]? ≠ some (some (mH P l X0 i,v)))/\¬ X.Φ (mH P l X0 i)/\∀ k,k<=l.length->(hF ρ (H0 X0 hs) k)[mH P l X0 i]?=hs[nAl P (l.take i)]?
def hold(l:List Oper)(ρ':Nat->Rec)(D k i:Nat):Prop:=∀ (a:Nat) (d:Option Nat) (m:Nat),a<k->(infos l [])[a]?=some (d,m)->(ρ' a).hp≠none->bit D a=false->bit m i=false
def FxK(P:Program)(l:List Oper)(X0:Gst)(ρ':Nat->Rec)(D:Nat)(X:Gst)(sl:List (Nat×Nat))(k m:Nat):Prop:=X.Φ m\/(Fx X (UD P l X0 D) m /\
 ∀ (loc v:Nat) (b:SB),X.σ[loc]?=some (some (m,v))->X.sh[loc]?=some b->b≠.gone->(∃ p ∈ sl,p.2=loc)->∃ p ∈ sl,p.2=loc/\hold l ρ' D k p.1)
def Fut(ρ':Nat->Rec)(D:Nat)(X:Gst)(sl:List (Nat×Nat)):Prop:=∀ k,k<=l.length->(∀ j,bit (jM P l 0) j=true->bit D j=true->j<k)->∀ m,FxK P l X0 ρ' D X sl k m->(hF ρ' (H0 X0 hs) k)[m]?=X.h[m]?
def ztQ(X0:Gst)(sl:List (Nat×Nat)):Prop:=∀ p ∈ sl,∀ b0,X0.sh[p.2]?=some b0->b0.md=0
def St1(ρ':Nat->Rec)(i:Nat):Prop:=∀ (o:Oper) (d:Option Nat) (b:Nat),l[i]?=some o->(infos l [])[i]?=some (d,b) ->
 Ev (fun f=>zcb P noQ (jU P hk (jO P hk f)) l (infos l []) env0 X0.h.length (H0 X0 hs) (kH ρ' i) o=some (ρ' i)) /\
 ∀ call,zvz P noQ call (infos l []) env0 ((kH ρ' l.length).map Rec.val) (H0 X0 hs) (kH ρ' l.length) i b o (ρ' i)=true
def Rs1{R:Type}(ρ:Nat->Rec)(D:Nat)(X:Gst)(sl:List (Nat×Nat))(K:SS->Option R)(r:R):Prop:=
 ∃ st' Y me' ρ' D',K st'=some r/\DI P l env0 X0 hs ρ' D' Y st' me'/\(∀ k,k<l.length->bit D' k=true)/\Stp X0 Y/\(∀ k,bit D k=true->ρ' k=ρ k)/\Fut P l X0 hs ρ' D X sl/\∀ i,i<l.length->bit D i=false->St1 P hk l env0 X0 hs ρ' i
end
section
variable {P:Program} {gl:GL} {ct:CT} {hk:wJ} {l:List Oper} {env0:Arr AV} {X0:Gst} {hs:List Blk}
variable {ρ ρ':Nat->Rec} {D D':Nat} {X Y:Gst} {st st':SS} {me me':Arr AV}
theorem znJ(hI:DI P l env0 X0 hs ρ D X st me)(hρ:∀ k,bit D k=true->ρ' k=ρ k){k:Nat}(hl:∀ j,j<k->(ρ' j).hp≠none->bit D j=true):hF ρ' (H0 X0 hs) k=hF ρ (H0 X0 hs) k:=by
 refine zfH fun j hj=>?_
 cases hd:bit D j with
 |true=>rw[hρ j hd]
 |false=>
  rw[hI.off j hd]
  cases e:(ρ' j).hp with
  |none=>rfl
  |some x=>have:=hl j hj (by rw[e];simp);rw[hd] at this;cases this
theorem zrq(hI:DI P l env0 X0 hs ρ D X st me){k:Nat}(hk:k<=l.length)(hD:∀ j,bit (jM P l 0) j=true->bit D j=true->j<k):hF ρ (H0 X0 hs) k=X.h:=by
 rw[hI.hh]
 refine(zrp (fun j h1 h2=>?_) hk).symm
 cases e:(ρ j).hp with
 |none=>rfl
 |some x=>
  have ha:=hI.rk j (by rw[e];simp)
  cases hd:bit D j with
  |true=>have:=hD j ha hd;omega
  |false=>rw[hI.off j hd] at e;cases e
theorem zAY{k:Nat}(h:bit (jM P l 0) k=true):k<l.length:=by
 obtain⟨j,o,e,h1,_⟩:=zgn.1 h
 rw[yv] at e;subst e
 exact(ya.1 h1).1
theorem zh3{k:Nat}{o:Oper}(ho:l[k]?=some o):bit (jM P l 0) k=true↔kindOf P o.op=.act:=by
 rw[zgn]
 constructor
 ·rintro⟨j,o',e,h1,h2⟩
  rw[yv] at e;subst e
  rw[ho] at h1;cases h1;exact h2
 ·exact fun h=>⟨k,o,(yv k).symm,ho,h⟩
theorem zrs{k:Nat}{o:Oper}(ho:l[k]?=some o):bit (xX P l 0) k=true↔∃ t,kindOf P o.op=.hole t:=by
 rw[zjC]
 constructor
 ·rintro⟨j,o',t,e,h1,h2⟩
  rw[yv] at e;subst e
  rw[ho] at h1;cases h1;exact⟨t,h2⟩
 ·exact fun⟨t,h⟩=>⟨k,o,t,(yv k).symm,ho,h⟩
theorem Fut.end_(hI:DI P l env0 X0 hs ρ D X st me){sl:List (Nat×Nat)}(hall:∀ k,k<l.length->bit D k=true):Fut P l X0 hs ρ D X sl:=by
 intro k hk hD m _
 rw[zrq hI hk hD]
theorem DI.put(hI:DI P l env0 X0 hs ρ D X st me)(hdst:zfA (infos l [])=true){i b:Nat}{o:Oper}(ho:l[i]?=some o)(hi:(infos l [])[i]?=some (o.dst,b))(hok:OkK (infos l []) (jM P l 0) (xX P l 0) D i b)
  {r:Rec} {X1:Gst} {env env1:List SV} {v:SV} {h1:SH} (S1:Stp X0 X1) (hle:X.le X1) (hsh:X1.sh=h1) (hh:X1.h=match r.hp with|some h'=>h' | none=>X.h) (hra:r.hp≠none->kindOf P o.op=.act)
  (hrh:(∃ t,kindOf P o.op=.hole t)↔∃ a c,r=.hole a c) (hen:env=st.env) (hv:RV X1 v r.val) (hset:zaD env o.dst v=some env1)
  (hun:∀ (j:Nat) (o':Oper) (t:TypeId),l[j]?=some o'->kindOf P o'.op=.hole t->bit D j=false->j≠i->X1.h[mH P l X0 j]?=X.h[mH P l X0 j]? /\ mH P l X0 j<X1.h.length/\(∀ (k v:Nat),X1.σ[k]? ≠ some (some (mH P l X0 j,v)))/\¬ X1.Φ (mH P l X0 j)):
  ∃ me1,DI P l env0 X0 hs (fun k=>if k=i then r else ρ k) (D ||| (1 <<< i)) X1 ⟨env1,h1⟩ me1:=by
 subst hen
 obtain⟨me1,hm1,hm2⟩:=zcZ (hI.env.le hle) hv hset
 have hbi:∀ k,bit (D ||| (1 <<< i)) k=true↔bit D k=true\/i=k:=fun k=>by rw[zbY];simp
 have hbf:∀ k,bit (D ||| (1 <<< i)) k=false↔bit D k=false/\i≠k:=fun k=>by rw[zbY];simp
 have hil:=(ya.1 ho).1
 have hml:me1.length=me.length/\(∀ t,o.dst=some t->t<me.length/\me1[t]?=some r.val)/\∀ t,o.dst≠some t->me1[t]?=me[t]?:=by
  cases hd:o.dst with
  |none=>rw[hd] at hm1;cases hm1;exact⟨rfl,fun t e=>(by cases e),fun t _=>rfl⟩
  |some t0=>
   rw[hd] at hm1
   simp only[zjp] at hm1
   split at hm1
   ·rename_i hlt
    cases hm1
    refine⟨Arr.length_set,fun t e=>?_,fun t e=>?_⟩
    ·cases e;exact⟨hlt,by rw[Arr.qk,if_pos rfl,if_pos hlt]⟩
    ·rw[Arr.qk,if_neg (fun h=>e (by rw[h]))]
   ·cases hm1
 refine⟨me1,S1,hm2,hsh,?_,fun k hk=>?_,fun k t m hk hb=>?_,fun t ht=>?_,fun k t m hk hb=>?_,hml.1.trans hI.ml,fun k d m hk hb j hj=>?_,fun k k' ha ha' hlt hb=>?_,fun k hk=>?_,fun k o' hk hb=>?_,fun j o' t hj hkj hb=>?_⟩
 ·rw[hh]
  cases hr:r.hp with
  |none=>
   simp only
   rw[hI.hh]
   refine zfH fun k _=>?_
   split
   ·rename_i e;rw[e,hI.off i hok.new,hr];rfl
   ·rfl
  |some h'=>
   simp only
   have hact:=(zh3 ho).2 (hra (by rw[hr];simp))
   refine(zyS (i:=i) (by simp only[if_pos trivial];exact hr) hil fun k h1 h2=>?_).symm
   rw[if_neg (by omega)]
   cases e:(ρ k).hp with
   |none=>rfl
   |some x=>
    have ha:=hI.rk k (by rw[e];simp)
    cases hd:bit D k with
    |true=>have:=((hok.act hact).2 k ha).1 hd;omega
    |false=>rw[hI.off k hd] at e;cases e
 ·obtain⟨h1,h2⟩:=(hbf k).1 hk
  rw[if_neg (Ne.symm h2)];exact hI.off k h1
 ·by_cases e:k=i
  ·subst e
   rw[hi] at hk
   rw[if_pos rfl]
   exact(hml.2.1 t (by injection hk with hk;injection hk)).2
  ·rw[if_neg e,hml.2.2 t fun hd=>e (zaz hdst k i t m b hk (by rw[hi,hd]))]
   exact hI.e2 k t m hk (((hbi k).1 hb).resolve_right (Ne.symm e))
 ·have hne:o.dst≠some t:=fun hd=>by
   have:=(hbf i).1 (ht i b (by rw[hi,hd]))
   exact this.2 rfl
  rw[hml.2.2 t hne]
  exact hI.e3 t fun k m hk=>((hbf k).1 (ht k m hk)).1
 ·rw[hml.1]
  by_cases e:k=i
  ·subst e
   rw[hi] at hk
   exact(hml.2.1 t (by injection hk with hk;injection hk)).1
  ·exact hI.dl k t m hk (((hbi k).1 hb).resolve_right (Ne.symm e))
 ·rw[hbi]
  by_cases e:k=i
  ·subst e
   rw[hi] at hk;cases hk
   exact⟨.inl (hok.sub j hj),hok.low j hj⟩
  ·obtain⟨c1,c2⟩:=hI.cl k d m hk (((hbi k).1 hb).resolve_right (Ne.symm e)) j hj
   exact⟨.inl c1,c2⟩
 ·rw[hbi]
  rcases(hbi k').1 hb with h|rfl
  ·exact .inl (hI.ai k k' ha ha' hlt h)
  ·exact .inl (((hok.act ha').2 k ha).2 hlt)
 ·split at hk
  ·rename_i e;rw[e];exact(zh3 ho).2 (hra hk)
  ·exact hI.rk k hk
 ·by_cases e:k=i
  ·subst e
   rw[ho] at hk;cases hk
   rw[if_pos rfl];exact hrh
  ·rw[if_neg e]
   exact hI.hk k o' hk (((hbi k).1 hb).resolve_right (Ne.symm e))
 ·obtain⟨h2,h3⟩:=(hbf j).1 hb
  obtain⟨q1,q2,q3,q4⟩:=hun j o' t hj hkj h2 (Ne.symm h3)
  obtain⟨_,_,_,p4⟩:=hI.un j o' t hj hkj h2
  refine⟨q2,q3,q4,fun k hkl=>?_⟩
  cases hr:r.hp with
  |none=>
   rw[<- p4 k hkl]
   congr 1
   refine zfH fun k _=>?_
   split
   ·rename_i e;rw[e,hI.off i hok.new,hr];rfl
   ·rfl
  |some h'=>
   have hact:=(zh3 ho).2 (hra (by rw[hr];simp))
   have hpast:∀ k',i<k'->k'<=l.length->hF (fun k=>if k=i then r else ρ k) (H0 X0 hs) k'=h':=fun k' h4 h5=>by
    refine zyS (i:=i) (by simp only[if_pos trivial];exact hr) h4 fun k h1 h2=>?_
    rw[if_neg (by omega)]
    cases e:(ρ k).hp with
    |none=>rfl
    |some x=>
     have ha:=hI.rk k (by rw[e];simp)
     cases hd:bit D k with
     |true=>have:=((hok.act hact).2 k ha).1 hd;omega
     |false=>rw[hI.off k hd] at e;cases e
   by_cases hik:i<k
   ·rw[hpast k hik hkl]
    rw[hr] at hh
    simp only at hh
    rw[<- hh,q1,hI.hh]
    exact p4 _ (yd _)
   ·rw[<- p4 k hkl]
    congr 1
    refine zfH fun k2 hk2=>?_
    rw[if_neg (by omega)]
def emD(P:Program)(gl:GL)(I:List (Option Nat×Nat))(env:List SV)(me:Arr AV)(h:zg)(i b:Nat)(x:Operand):Option AV:=match zpu gl I env i b x with
 |some _=>mev P me h x
 |none=>none
theorem zeU{I:List (Option Nat×Nat)}{env:List SV}{i b:Nat}(he:RVs X env me.toL)(hg:RGl P gl X):EvR X (zpu gl I env i b) (emD P gl I env me X.h i b):=by
 intro x v h
 have:sev gl env x=some v:=by
  cases x with
  |tmp t=>simp only[zpu] at h;split at h<;>first|exact h|cases h
  |_=>exact h
 obtain⟨y,h1,h2⟩:=zgc he hg this
 exact⟨y,by simp only[emD,h];exact h1,h2⟩
theorem zvB(hI:DI P l env0 X0 hs ρ D X st me)(hg:RGl P gl X)(hdst:zfA (infos l [])=true){i b:Nat}(hok:OkK (infos l []) (jM P l 0) (xX P l 0) D i b){vs:List AV}(hv:∀ j,bit b j=true->vs[j]?=some (ρ j).val){h:zg}
  (hh:∀ m,X.Φ m->h[m]?=X.h[m]?):∀ x v,emD P gl (infos l []) st.env me X.h i b x=some v->evD P (infos l []) env0 vs i b h x=some v:=by
 intro x v hx
 unfold emD at hx
 split at hx
 ·rename_i w hw
  cases x with
  |tmp t=>
   simp only[zpu] at hw
   split at hw
   ·rename_i ht
    have ht:=zk2 ht
    simp only[evD]
    by_cases hex:∃ (j m:Nat),(infos l [])[j]?=some (some t,m)
    ·obtain⟨j,m,hj⟩:=hex
     rw[ziw hj fun j' m' h'=>zaz hdst j' j t m' m h' hj,yv]
     have hjd:=ht j m hj
     rw[yv] at hjd
     cases hb:bit b j with
     |true=>
      simp only
      rw[hv j hb,<- hI.e2 j t m hj (hok.sub j hb)]
      exact hx
     |false=>
      rw[hb] at hjd
      have hm:bit m i=true:=hjd.resolve_left (by simp)
      simp only[hm]
      rw[<- hI.e3 t fun k m' hk=>?_]
      ·exact hx
      ·have e:=zaz hdst k j t m' m hk hj
       subst e
       rw[hj] at hk;cases hk
       cases hd:bit D k with
       |false=>rfl
       |true=>have:=(hI.cl k _ m hj hd i hm).1;rw[hok.new] at this;cases this
    ·rw[zgu fun j m hj=>hex ⟨j,m,hj⟩,<- hI.e3 t fun k m hk=>absurd ⟨k,m,hk⟩ hex]
     exact hx
   ·cases hw
  |const c=>exact hx
  |global g=>
   simp only[zpu,sev] at hw
   split at hw
   ·rename_i cs hcs
    obtain⟨h1,h2,cells,h3,h4⟩:=hg g cs hcs
    simp only[evD,mev] at hx |-
    rw[hh g h2];exact hx
   ·cases hw
  |func f=>exact hx
 ·cases hx
theorem zm6{ρ':Nat->Rec}(hρ:∀ k,bit D k=true->ρ' k=ρ k){i b n:Nat}(hok:OkK (infos l []) (jM P l 0) (xX P l 0) D i b)(hin:i<=n):∀ j,bit b j=true->((kH ρ' n).map Rec.val)[j]?=some (ρ j).val:=by
 intro j hj
 have:=hok.low j hj
 rw[yf,zf5 (by omega),hρ j (hok.sub j hj)];rfl
theorem znH(hI:DI P l env0 X0 hs ρ D X st me){j t:Nat}{c:Bool}(h:zwQ l st.env j=some (t,c))(hj:bit D j=true):(∃ q,l[j]?=some q/\q.dst=some t)/\(ρ j).val=.bool c/\sset st.env t (.a (.bool c))=st.env:=by
 unfold zwQ at h
 split at h
 ·rename_i q hq
  split at h
  ·rename_i t' ht
   split at h
   ·rename_i b' hb
    cases h
    rw[zeb] at hb
    rw[zox]
    obtain⟨x,h1,h2⟩:=hI.env.get hb
    cases(show x=_ from h2)
    obtain⟨m,h3,_⟩:=zaM hq
    rw[ht] at h3
    have h4:=hI.e2 j t m h3 hj
    rw[<- Arr.jT,h1] at h4
    exact⟨⟨q,hq,ht⟩,(yR h4).symm,wK hb⟩
   ·cases h
  ·cases h
 ·cases h
theorem zpZ{o:Option SV}(h:zlY o=true):∃ l,o=some (.tup l):=by
 unfold zlY at h
 split at h
 ·exact⟨_,rfl⟩
 ·cases h
theorem zlQ(hI:DI P l env0 X0 hs ρ D X st me){j:Nat}(h:zpV l st.env j=true)(hj:bit D j=true):∃ q t vs,l[j]?=some q/\q.dst=some t/\(ρ j).val=.tup vs:=by
 unfold zpV at h
 split at h
 ·rename_i q hq
  split at h
  ·rename_i t ht
   obtain⟨vs,hl⟩:=zpZ h
   rw[zeb] at hl
   obtain⟨x,h1,h2⟩:=hI.env.get hl
   obtain⟨l',rfl,_⟩:=h2
   obtain⟨m,h3,_⟩:=zaM hq
   rw[ht] at h3
   have h4:=hI.e2 j t m h3 hj
   rw[<- Arr.jT,h1] at h4
   exact⟨q,t,l',hq,ht,(yR h4).symm⟩
  ·cases h
 ·cases h
theorem zqx{o:Oper}{b j t:Nat}{w:Bool}{vs l':List AV}(h:o.guard=some (j,w))(hb:bit b j=true){q:Oper}(hq:l[j]?=some q)(hd:q.dst=some t)(hv:vs[j]?=some (.tup l')):zhH l o b vs=some false:=by
 simp only[zhH,h,hb,hq,hv,hd,isB]
 cases w<;>rfl
theorem zqw{o:Oper}{b:Nat}{vs:List AV}(h:o.guard=none):zhH l o b vs=some true:=by simp only[zhH,h]
theorem zqy{o:Oper}{b j t:Nat}{w c:Bool}{vs:List AV}(h:o.guard=some (j,w))(hb:bit b j=true){q:Oper}(hq:l[j]?=some q)(hd:q.dst=some t)(hv:vs[j]?=some (.bool c)):zhH l o b vs=some (c==w):=by
 simp only[zhH,h,hb,hq,hv,hd,isB]
 cases c<;>cases w<;>rfl
theorem Rs1.join{R:Type}{K:SS->Option R}{r0:R}(hI:DI P l env0 X0 hs ρ D X st me){i b:Nat}{o:Oper}(ho:l[i]?=some o)(hok:OkK (infos l []) (jM P l 0) (xX P l 0) D i b){r:Rec}{X1:Gst}
  {sl sl1:List (Nat×Nat)} (hfx:∀ (ρ':Nat->Rec) (k m:Nat),ρ' i=r->(r.hp≠none->i<k)->FxK P l X0 ρ' D X sl k m->FxK P l X0 ρ' (D ||| (1 <<< i)) X1 sl1 k m/\X1.h[m]?=X.h[m]?)
  (hi:∀ ρ' Y st' me' D',DI P l env0 X0 hs ρ' D' Y st' me'->(∀ k,k<l.length->bit D' k=true)->(∀ k,bit D k=true->ρ' k=ρ k)->ρ' i=r->Fut P l X0 hs ρ' (D ||| (1 <<< i)) X1 sl1->St1 P hk l env0 X0 hs ρ' i)
  (H:Rs1 P hk l env0 X0 hs (fun k=>if k=i then r else ρ k) (D ||| (1 <<< i)) X1 sl1 K r0) (hra:r.hp≠none->kindOf P o.op=.act):Rs1 P hk l env0 X0 hs ρ D X sl K r0:=by
 obtain⟨st',Y,me',ρ',D',h1,h2,h3,h4,h5,h6,h7⟩:=H
 have hρ:∀ k,bit D k=true->ρ' k=ρ k:=fun k hk=>by
  have:k≠i:=fun e=>by rw[e,hok.new] at hk;cases hk
  have h8:ρ' k=if k=i then r else ρ k:=h5 k (by rw[zbY,hk];rfl)
  rwa [if_neg this] at h8
 have hρi:ρ' i=r:=by
  have h8:ρ' i=if i=i then r else ρ i:=h5 i (by rw[zbY];simp)
  rwa [if_pos rfl] at h8
 refine⟨st',Y,me',ρ',D',h1,h2,h3,h4,hρ,fun k hk hD m hm=>?_,fun j hj hd=>?_⟩
 ·have go:(r.hp≠none->i<k)->(∀ j,bit (jM P l 0) j=true->bit (D ||| (1 <<< i)) j=true->j<k)->(hF ρ' (H0 X0 hs) k)[m]?=X.h[m]?:=fun hik hD'=>by
   obtain⟨hf1,hf2⟩:=hfx ρ' k m hρi hik hm
   exact(h6 k hk hD' m hf1).trans hf2
  cases ha:bit (jM P l 0) i with
  |false=>
   refine go (fun hne=>by have:=(zh3 ho).2 (hra hne);rw[ha] at this;cases this) fun j h8 h9=>?_
   rw[zbY] at h9
   simp only[yn,decide_eq_true_eq] at h9
   rcases h9 with h9|rfl
   ·exact hD j h8 h9
   ·rw[ha] at h8;cases h8
  |true=>
   by_cases hik:i<k
   ·refine go (fun _=>hik) fun j h8 h9=>?_
    rw[zbY] at h9
    simp only[yn,decide_eq_true_eq] at h9
    rcases h9 with h9|rfl
    ·exact hD j h8 h9
    ·exact hik
   ·rw[znJ hI hρ fun j hj hne=>((hok.act ha).2 j (h2.rk j hne)).2 (by omega),zrq hI hk hD]
 ·by_cases e:j=i
  ·subst e;exact hi ρ' Y st' me' D' h2 h3 hρ hρi h6
  ·exact h7 j hj (by rw[zbY,hd];simpa using Ne.symm e)
theorem UD.put{i m:Nat}(h:UD P l X0 (D ||| (1 <<< i)) m):UD P l X0 D m:=by
 obtain⟨j,o,t,h1,h2,h3,h4⟩:=h
 rw[zbY] at h3
 simp only[vi] at h3
 exact⟨j,o,t,h1,h2,h3.1,h4⟩
theorem DI.ztx(hI:DI P l env0 X0 hs ρ D X st me){X1:Gst}(S:Stp X X1){j:Nat}{o':Oper}{t:TypeId}(hj:l[j]?=some o')(hk:kindOf P o'.op=.hole t)(hd:bit D j=false):
  X1.h[mH P l X0 j]?=X.h[mH P l X0 j]? /\ mH P l X0 j<X1.h.length/\(∀ (k v:Nat),X1.σ[k]? ≠ some (some (mH P l X0 j,v)))/\¬ X1.Φ (mH P l X0 j):=by
 obtain⟨h1,h2,h3,_⟩:=hI.un j o' t hj hk hd
 refine⟨S.fm.h _ h1 fun i v b _ hs=>absurd hs (h2 i v),yp h1 S.fm.len,fun k v hs=>?_,fun hΦ=>?_⟩
 ·obtain⟨v',h4⟩:=S.fm.new k _ v hs h1
  exact h2 k v' h4
 ·rcases S.fm.phi _ h1 hΦ with h|⟨i,v,b,_,h4,_⟩
  ·exact h3 h
  ·exact h2 i v h4
theorem hold.put{ρ':Nat->Rec}{k i j:Nat}(h:hold l ρ' D k j):hold l ρ' (D ||| (1 <<< i)) k j:=fun a d m h1 h2 h3 h4=>h a d m h1 h2 h3 (by
 rw[zbY] at h4
 simp only[vi] at h4
 exact h4.1)
theorem Fx.put{X1:Gst}(S:Stp X X1){i m:Nat}(h:Fx X (UD P l X0 D) m):Fx X1 (UD P l X0 (D ||| (1 <<< i))) m/\X1.h[m]?=X.h[m]?:=by
 obtain⟨h1,h2⟩:=Fx.step S h
 exact⟨⟨h1.1,fun hU=>h1.2.1 (UD.put hU),h1.2.2⟩,h2⟩
theorem FxK.put{X1:Gst}{sl:List (Nat×Nat)}{ρ':Nat->Rec}(S:Stp X X1){i k m:Nat}(h:FxK P l X0 ρ' D X sl k m):FxK P l X0 ρ' (D ||| (1 <<< i)) X1 sl k m/\X1.h[m]?=X.h[m]?:=by
 rcases h with h|h
 ·exact⟨.inl (S.le.Φ m h),S.le.h m h⟩
 obtain⟨h1,h2⟩:=Fx.put (i:=i) S h.1
 refine⟨.inr ⟨h1,fun loc v b hs hb hg hx=>?_⟩,h2⟩
 obtain⟨v',hs'⟩:=S.fm.new loc m v hs h.1.1
 have hi:loc<X.sh.length:=by rw[<- S.le.shl];exact(ya.1 hs').1
 have hb':=yb hi
 by_cases hgn:(X.sh[loc]'hi)=.gone
 ·have:=(S.fm.gone loc (hb'.trans (by rw[hgn]))).1
  rw[hb] at this;cases this;exact absurd rfl hg
 ·obtain⟨p,q1,q2,q3⟩:=h.2 loc v' _ hs' hb' hgn hx
  exact⟨p,q1,q2,q3.put⟩
theorem DI.open_(hI:DI P l env0 X0 hs ρ D X st me){sl:List (Nat×Nat)}(hsl:ztQ X0 sl)(kept:List (Nat×Nat)):DI P l env0 X0 hs ρ D ⟨X.h,X.Φ,X.σ,zd8 kept sl X.sh⟩ ⟨st.env,zd8 kept sl st.h⟩ me/\X.le ⟨X.h,X.Φ,X.σ,zd8 kept sl X.sh⟩:=by
 obtain⟨S,hle⟩:=zza hI.stp (h':=zd8 kept sl X.sh) zd9 fun i b hb=>by
  obtain⟨b',h1,h2⟩:=zf2 (kept:=kept) (sl:=sl) hb
  refine⟨b',h1,h2.imp id fun⟨q1,q2,_,p,q4,q5⟩=>⟨q1,q2,fun b0 hb0=>hsl p q4 b0 (by rw[q5];exact hb0)⟩⟩
 exact⟨⟨S,hI.env.le hle,by rw[<- hI.sh],hI.hh,hI.off,hI.e2,hI.e3,hI.dl,hI.ml,hI.cl,hI.ai,hI.rk,hI.hk,hI.un⟩,hle⟩
theorem zlB{gl:GL}{h:SH}{n loc k i fo:Nat}{cs:List SV}(q:zdd gl h n (.zks loc k i fo)=some cs):∃ u l md,h[loc]?=some (.seq u l k md):=by
 unfold zdd at q
 simp only at q
 split at q
 ·rename_i u l m md he
  split at q
  ·rename_i h1 h2
   have:=zj h1
   subst this
   exact⟨u,l,md,he⟩
  ·cases q
 ·cases q
theorem zos{P:Program}{gl:GL}{h:SH}{t:TypeId}{p v:SV}(q:zor P gl h t p=some v):∃ n cs,zdd gl h n p=some cs:=by
 unfold zor at q
 split at q
 ·split at q
  ·rename_i h1;exact⟨_,_,h1⟩
  ·cases q
 ·split at q
  ·rename_i h1;exact⟨_,_,h1⟩
  ·cases q
 ·cases q
theorem zsB(hI:DI P l env0 X0 hs ρ D X st me)(hg:RGl P gl X){I:List (Option Nat×Nat)}{i b:Nat}{op:Op}{v:SV}{sh':SH}{Y:Gst}{x:Option Nat}
  (hq:Hit (sop P gl (zpu gl I st.env i b) X.sh op) (.val v sh')) (hr:zAl X.sh (zpu gl I st.env i b) op=some x) (S:Stp X Y) (hh:Y.h=X.h) (hsh:Y.sh=sh') {sh2:SH} {sl sl1:List (Nat×Nat)} (hsl:ztQ X0 sl) (hx:match x with|none=>sh2=sh'/\sl1=sl|some loc=>zpv sh' i loc sl=some (sh2,sl1)) (hqt:kindOf P op=.quiet):
  ∃ X1,Stp X X1/\X1.h=X.h/\X1.sh=sh2/\Y.le X1/\ztQ X0 sl1/\(∀ ρ' k m,FxK P l X0 ρ' D X sl k m->FxK P l X0 ρ' (D ||| (1 <<< i)) X1 sl1 k m/\X1.h[m]?=X.h[m]?)/\(MFr P (emD P gl I st.env me X.h i b) op\/∃ t o m off ver lim,op=.load t o/\emD P gl I st.env me X.h i b o=some (.ptr m off ver lim)/\∀ ρ' k,hold l ρ' (D ||| (1 <<< i)) k i->FxK P l X0 ρ' (D ||| (1 <<< i)) X1 sl1 k m):=by
 unfold zAl at hr
 cases hf:zrn op with
 |true=>
  rw[hf] at hr;cases hr
  obtain⟨hx1,rfl⟩:=hx
  exact⟨Y,S,hh,hsh.trans hx1.symm,Gst.le_refl S.hr.len,hsl,fun ρ' k m hm=>FxK.put S hm,.inl fun e' h h' h1 v hm q=>zun hm hf q⟩
 |false=>
  rw[hf] at hr
  cases op with
  |slice t o lo hi mx=>
   simp only at hr
   split at hr
   ·rename_i v0 he
    split at hr
    ·rename_i hfl
     cases hr
     obtain⟨y,h1,h2⟩:=zeU (P:=P) (gl:=gl) (I:=I) (i:=i) (b:=b) hI.env hg _ _ he
     obtain⟨hx1,rfl⟩:=hx
     exact⟨Y,S,hh,hsh.trans hx1.symm,Gst.le_refl S.hr.len,hsl,fun ρ' k m hm=>FxK.put S hm,.inl (zrT (fun w hw=>by rw[h1] at hw;cases hw;exact zik hfl h2) (by
      have hrel:=zeU (P:=P) (gl:=gl) (I:=I) (i:=i) (b:=b) hI.env hg
      simp only[sop,he] at hq
      split at hq
      ·rename_i a1 b1 c1 d1 e0 e1 e2 e3
       cases e0
       obtain⟨v1,q1,q2⟩:=zpX hq
       obtain⟨z,q3,q4⟩:=zhb hI.stp.hr h2 q1
       exact⟨y,z,b1,c1,d1,X.h,h1,xW hrel e1,xW hrel e2,xW hrel e3,q3⟩
      ·cases hq))⟩
    ·cases hr
   ·cases hr
  |convert s d o=>
   simp only at hr
   split at hr
   ·rename_i v0 he
    split at hr
    ·rename_i hfl
     cases hr
     obtain⟨y,h1,h2⟩:=zeU (P:=P) (gl:=gl) (I:=I) (i:=i) (b:=b) hI.env hg _ _ he
     obtain⟨hx1,rfl⟩:=hx
     exact⟨Y,S,hh,hsh.trans hx1.symm,Gst.le_refl S.hr.len,hsl,fun ρ' k m hm=>FxK.put S hm,.inl (zug hqt fun w hw=>by rw[h1] at hw;cases hw;exact zqd hfl h2)⟩
    ·cases hr
   ·cases hr
  |call c=>
   simp only at hr
   split at hr
   ·rename_i v0 hc he
    split at hr
    ·rename_i hfl
     cases hr
     obtain⟨xs,h1,w,t,rfl,h2,rfl⟩:=zbF (zeU (P:=P) (gl:=gl) (I:=I) (i:=i) (b:=b) hI.env hg) he
     obtain⟨hx1,rfl⟩:=hx
     exact⟨Y,S,hh,hsh.trans hx1.symm,Gst.le_refl S.hr.len,hsl,fun ρ' k m hm=>FxK.put S hm,.inl (zw7 hc (fun x hx2=>by rw[h1] at hx2;cases hx2;exact znz hfl h2) ⟨_,h1⟩)⟩
    ·cases hr
   ·cases hr
  |load t o=>
   simp only at hr
   have hrel:=zeU (P:=P) (gl:=gl) (I:=I) (i:=i) (b:=b) hI.env hg
   have hld:∀ p,zpu gl I st.env i b o=some p->∃ n cs,zdd gl X.sh n p=some cs:=fun p hp=>by
    simp only[sop,hp] at hq
    obtain⟨w,h1,_⟩:=zfI hq
    exact zos h1
   have imm:x=none->∀ m off ver lim,emD P gl I st.env me X.h i b o=some (.ptr m off ver lim)->X.Φ m->∃ X1,Stp X X1/\X1.h=X.h/\X1.sh=sh2/\Y.le X1/\ztQ X0 sl1/\(∀ ρ' k m,FxK P l X0 ρ' D X sl k m->FxK P l X0 ρ' (D ||| (1 <<< i)) X1 sl1 k m/\X1.h[m]?=X.h[m]?)/\(MFr P (emD P gl I st.env me X.h i b) (.load t o)\/∃ t' o' m off ver lim,Op.load t o=.load t' o'/\emD P gl I st.env me X.h i b o'=some (.ptr m off ver lim)/\∀ ρ' k,hold l ρ' (D ||| (1 <<< i)) k i->FxK P l X0 ρ' (D ||| (1 <<< i)) X1 sl1 k m):=by
    intro e m off ver lim h1 h2
    subst e
    obtain⟨hx1,rfl⟩:=hx
    exact⟨Y,S,hh,hsh.trans hx1.symm,Gst.le_refl S.hr.len,hsl,fun ρ' k m hm=>FxK.put S hm,.inr ⟨t,o,m,off,ver,lim,rfl,h1,fun ρ' k _=>.inl (S.le.Φ m h2)⟩⟩
   have own:∀ loc m v0 off ver lim,x=some loc->X.σ[loc]?=some (some (m,v0))->emD P gl I st.env me X.h i b o=some (.ptr m off ver lim)->∃ X1,Stp X X1/\X1.h=X.h/\X1.sh=sh2/\Y.le X1/\ztQ X0 sl1/\(∀ ρ' k m,FxK P l X0 ρ' D X sl k m->FxK P l X0 ρ' (D ||| (1 <<< i)) X1 sl1 k m/\X1.h[m]?=X.h[m]?)/\(MFr P (emD P gl I st.env me X.h i b) (.load t o)\/∃ t' o' m off ver lim,Op.load t o=.load t' o'/\emD P gl I st.env me X.h i b o'=some (.ptr m off ver lim)/\∀ ρ' k,hold l ρ' (D ||| (1 <<< i)) k i->FxK P l X0 ρ' (D ||| (1 <<< i)) X1 sl1 k m):=by
    intro loc m v0 off ver lim e hσ he
    subst e
    have hU:¬ UD P l X0 (D ||| (1 <<< i)) m:=fun hU=>by
     obtain⟨j,o',t',h1,h2,h3,h4⟩:=UD.put hU
     exact(hI.un j o' t' h1 h2 h3).2.1 loc v0 (h4 ▸ hσ)
    have one:∀ X1:Gst,Stp X X1->∀ (loc' v':Nat),X1.σ[loc']?=some (some (m,v'))->loc'=loc:=fun X1 S1 loc' v' h2=>by
     obtain⟨v2,hσ2⟩:=S1.le.at_ loc m v0 hσ
     exact S1.hr.inj _ _ _ _ _ h2 hσ2
    have fx:∀ X1:Gst,Stp X X1->(∃ b',X1.sh[loc]?=some b'/\b'.md≠0)->Fx X1 (UD P l X0 (D ||| (1 <<< i))) m:=fun X1 S1 ⟨b',hb',hmd⟩=>by
     refine⟨yp (hI.stp.hr.lt _ _ _ hσ) S1.fm.len,hU,fun i' v' b2 h1 h2=>?_⟩
     have:=one X1 S1 i' v' h2
     subst this
     rw[hb'] at h1;cases h1;exact hmd
    have more:∀ X1:Gst,Stp X X1->((∃ b0,X.sh[loc]?=some b0/\b0.md=0)\/zgX loc sl=true)->∀ ρ' k m',FxK P l X0 ρ' D X sl k m'->FxK P l X0 ρ' (D ||| (1 <<< i)) X1 ((i,loc)::sl) k m'/\X1.h[m']?=X.h[m']?:=fun X1 S1 hor ρ' k m' hm'=>by
     obtain⟨q1,q2⟩:=FxK.put (i:=i) S1 hm'
     refine⟨q1.imp id fun⟨r1,r2⟩=>⟨r1,fun loc' v' b' h1 h2 h3 ⟨p,h4,h5⟩=>?_⟩,q2⟩
     rcases yC.1 h4 with rfl|h4
     ·have h5:loc=loc':=h5
      subst h5
      rcases hor with⟨b0,hb0,hmd0⟩|hh2
      ·rcases hm' with hΦ|hm'
       ·obtain⟨p',k1,k2,k3⟩:∃ p' ∈ ((i,loc)::sl),p'.2=loc/\hold l ρ' (D ||| (1 <<< i)) k p'.1\/True:=⟨(i,loc),yF,.inr trivial⟩
        ·obtain⟨v'',hs''⟩:=S1.fm.new loc m' v' h1 (hI.stp.hr.Φlt m' hΦ)
         rcases hI.stp.hr.own loc m' v'' b0 hb0 hs'' hΦ with e|e<;>rw[e] at hmd0<;>cases hmd0
        ·obtain⟨v'',hs''⟩:=S1.fm.new loc m' v' h1 (hI.stp.hr.Φlt m' hΦ)
         rcases hI.stp.hr.own loc m' v'' b0 hb0 hs'' hΦ with e|e
         ·omega
         ·rw[e] at hmd0;cases hmd0
       ·obtain⟨v'',hs''⟩:=S1.fm.new loc m' v' h1 hm'.1.1
        exact absurd hmd0 (hm'.1.2.2 loc v'' b0 hb0 hs'')
      ·obtain⟨p',k1,k2,k3⟩:=r2 loc v' b' h1 h2 h3 (zcN.1 hh2)
       exact⟨p',yB _ k1,k2,k3⟩
     ·obtain⟨p',k1,k2,k3⟩:=r2 loc' v' b' h1 h2 h3 ⟨p,h4,h5⟩
      exact⟨p',yB _ k1,k2,k3⟩
    have mine:∀ X1:Gst,Stp X X1->(∃ b',X1.sh[loc]?=some b'/\b'.md≠0)->∀ ρ' k,hold l ρ' (D ||| (1 <<< i)) k i->FxK P l X0 ρ' (D ||| (1 <<< i)) X1 ((i,loc)::sl) k m:=fun X1 S1 hb' ρ' k hh'=>
     .inr ⟨fx X1 S1 hb',fun loc' v' b' h1 _ _ _=>⟨(i,loc),yF,(one X1 S1 loc' v' h1).symm,hh'⟩⟩
    simp only at hx
    unfold zpv at hx
    split at hx
    ·rename_i bb hbb
     rw[<- hsh] at hbb
     split at hx
     ·rename_i hmd
      cases hx
      have S2:=shut S.hr hbb hmd
      have hng:bb≠.gone:=fun e=>by rw[e] at hmd;cases hmd
      have hsh1:∃ b',(Y.sh.set loc (bb.zez 1))[loc]?=some b'/\b'.md≠0:=⟨bb.zez 1,ve (ya.1 hbb).1,by rw[zps hng];omega⟩
      have hx0:∃ b0,X.sh[loc]?=some b0/\b0.md=0:=by
       have hi:loc<X.sh.length:=by rw[<- S.le.shl];exact(ya.1 hσ).1
       refine⟨_,yb hi,?_⟩
       by_cases e:(X.sh[loc]'hi).md=0
       ·exact e
       ·obtain⟨b',q1,q2⟩:=S.fm.md loc _ (yb hi) e
        rw[hbb] at q1;cases q1;exact absurd hmd q2
      refine⟨_,S.trans S2,hh,by rw[hsh],S2.le,fun p hp b0 hb0=>?_,more _ (S.trans S2) (.inl hx0),.inr ⟨t,o,m,off,ver,lim,rfl,he,mine _ (S.trans S2) hsh1⟩⟩
      rcases yC.1 hp with rfl|hp
      ·obtain⟨bx,hbx,hmx⟩:=hx0
       by_cases e:b0.md=0
       ·exact e
       ·obtain⟨b',q1,q2⟩:=hI.stp.fm.md loc b0 hb0 e
        rw[hbx] at q1;cases q1;exact absurd hmx q2
      ·exact hsl p hp b0 hb0
     ·rename_i hmd
      have hsh1:∃ b',Y.sh[loc]?=some b'/\b'.md≠0:=⟨bb,hbb,hmd⟩
      split at hx
      ·rename_i hl
       cases hx
       refine⟨Y,S,hh,hsh,Gst.le_refl S.hr.len,fun p hp b0 hb0=>?_,more Y S (.inr hl),.inr ⟨t,o,m,off,ver,lim,rfl,he,mine Y S hsh1⟩⟩
       rcases yC.1 hp with rfl|hp
       ·obtain⟨p',q1,q2⟩:=zcN.1 hl
        exact hsl p' q1 b0 (by rw[q2];exact hb0)
       ·exact hsl p hp b0 hb0
      ·rename_i hl
       cases hx
       refine⟨Y,S,hh,hsh,Gst.le_refl S.hr.len,hsl,fun ρ' k m hm=>FxK.put S hm,.inr ⟨t,o,m,off,ver,lim,rfl,he,fun ρ' k hh'=>.inr ⟨fx Y S hsh1,fun loc' v' b' h1 _ _ hp=>?_⟩⟩⟩
       rw[one Y S loc' v' h1] at hp
       rw[zcN.2 hp] at hl;cases hl
    ·cases hx
   split at hr
   ·rename_i loc off lim he
    cases hr
    obtain⟨y,h1,m,⟨v0,h2⟩,rfl⟩:=hrel _ _ he
    exact own loc m v0 _ _ _ rfl h2 h1
   ·rename_i loc k j fo he
    cases hr
    obtain⟨y,h1,_,o',h3,h4⟩:=hrel _ _ he
    obtain⟨n,cs,hc⟩:=hld _ he
    obtain⟨u,l',md,hb⟩:=zlB hc
    obtain⟨_,m,ver,lim,rfl,rfl,_⟩:=(h4 u l' k md hb).2 rfl
    exact own loc m ver _ _ _ rfl h3 h1
   ·rename_i u e fo he
    cases hr
    obtain⟨y,h1,m,off,ver,lim,cs,rfl,hΦ,_⟩:=hrel _ _ he
    exact imm rfl _ _ _ _ h1 hΦ
   ·rename_i g off lim he
    cases hr
    obtain⟨y,h1,rfl⟩:=hrel _ _ he
    obtain⟨n,cs,hc⟩:=hld _ he
    have hΦ:X.Φ g:=by
     simp only[zdd] at hc
     split at hc
     ·rename_i l' hl' _;exact(hg g l' hl').2.1
     ·cases hc
    exact imm rfl _ _ _ _ h1 hΦ
   ·cases hr
  |_=>cases hr
def zx4(P:Program)(gl:GL)(ct:CT)(hk:wJ)(l:List Oper)(env0:Arr AV)(X0:Gst)(hs:List Blk)(n:Nat)(pl:Pl):Prop:=∀ (D:Nat) (sl:List (Nat×Nat)) (p:List Nat) (R:Type) (st:SS) (K:SS->Option R) (r:R) (ρ:Nat->Rec) (X:Gst) (me:Arr AV),
 sdr P gl ct (R:=R) n pl l (infos l []) (jM P l 0) (xX P l 0) D sl p st K=some r->DI P l env0 X0 hs ρ D X st me->RGl P gl X->ztQ X0 sl->Rs1 P hk l env0 X0 hs ρ D X sl K r
theorem zuM(hdst:zfA (infos l [])=true)(hhs:xO P l=some hs){n:Nat}{pl:Pl}(ihF:∀ (i:Nat) (f:FuncId),zhI P gl hk f fun R args h κ=>zao P gl ct (R:=R) n (pl.at i f) f args h κ)
  (ihD:zx4 P gl ct hk l env0 X0 hs n pl):zx4 P gl ct hk l env0 X0 hs (n+1) pl:=by
 intro D sl p R st K r ρ X me h hI hg hsl
 cases p with
 |nil=>
  unfold sdr at h
  simp only at h
  split at h
  ·rename_i hD
   have hD:=yg hD
   have hall:∀ k,k<l.length->bit D k=true:=fun k hk=>by rw[hD,zng];simpa using hk
   exact⟨st,X,me,ρ,D,h,hI,hall,hI.stp,fun _ _=>rfl,Fut.end_ hI hall,fun i hi hd=>absurd (hall i hi) (by rw[hd];simp)⟩
  ·cases h
 |cons i p=>
  unfold sdr at h
  simp only at h
  split at h
  ·rename_i o d b ho hib
   obtain⟨m0,hib',_⟩:=zaM ho
   rw[hib] at hib'
   have hde:d=o.dst:=by injection hib' with h1;injection h1
   subst hde
   split at h
   ·cases h
   ·rename_i hok
    have hok:=zux hok
    have hil:i<l.length:=(ya.1 ho).1
    have hr:=hI.stp.hr
    have hlen:(infos l []).length=l.length:=kV _ _
    have fin:∀ (r1:Rec) (X1:Gst) (env:List SV) (v:SV) (h1:SH) (sl1:List (Nat×Nat)),Stp X0 X1->X.le X1->X1.sh=h1->(X1.h=match r1.hp with|some h'=>h' | none=>X.h)->(r1.hp≠none->kindOf P o.op=.act)->((∃ t,kindOf P o.op=.hole t)↔∃ a c,r1=.hole a c) ->
      env=st.env->RV X1 v r1.val->ztQ X0 sl1 ->
      (∀ (j:Nat) (o':Oper) (t:TypeId),l[j]?=some o'->kindOf P o'.op=.hole t->bit D j=false->j≠i->X1.h[mH P l X0 j]?=X.h[mH P l X0 j]? /\ mH P l X0 j<X1.h.length/\(∀ (k v:Nat),X1.σ[k]? ≠ some (some (mH P l X0 j,v)))/\¬ X1.Φ (mH P l X0 j)) ->
      (∀ (ρ':Nat->Rec) (k m:Nat),ρ' i=r1->(r1.hp≠none->i<k)->FxK P l X0 ρ' D X sl k m->FxK P l X0 ρ' (D ||| (1 <<< i)) X1 sl1 k m/\X1.h[m]?=X.h[m]?) ->
      (∀ ρ' Y st' me' D',DI P l env0 X0 hs ρ' D' Y st' me'->(∀ k,k<l.length->bit D' k=true)->(∀ k,bit D k=true->ρ' k=ρ k)->ρ' i=r1->Fut P l X0 hs ρ' (D ||| (1 <<< i)) X1 sl1->St1 P hk l env0 X0 hs ρ' i) ->
      (match zaD env o.dst v with|some env=>sdr P gl ct n pl l (infos l []) (jM P l 0) (xX P l 0) (D ||| (1 <<< i)) sl1 p ⟨env,h1⟩ K|none=>none)=some r->Rs1 P hk l env0 X0 hs ρ D X sl K r:=by
     intro r1 X1 env v h1 sl1 S hle hsh hh hra hrh hen hv hsl1 hun hfx hi h
     split at h
     ·rename_i env1 hset
      obtain⟨me1,hD1⟩:=hI.put hdst ho hib hok S hle hsh hh hra hrh hen hv hset hun
      exact Rs1.join hI ho hok hfx hi (ihD _ _ _ R _ K r _ X1 me1 h hD1 (hg.le hle) hsl1) hra
     ·cases h
    have off:(∀ ρ':Nat->Rec,(∀ k,bit D k=true->ρ' k=ρ k)->zhH l o b ((kH ρ' i).map Rec.val)=some false)->bit (xX P l 0) i=false ->
      (match zaD st.env o.dst (.tup []) with|some env=>sdr P gl ct n pl l (infos l []) (jM P l 0) (xX P l 0) (D ||| (1 <<< i)) sl p ⟨env,st.h⟩ K|none=>none)=some r->Rs1 P hk l env0 X0 hs ρ D X sl K r:=by
     intro hw hnh h
     refine fin .off X st.env (.tup []) st.h sl hI.stp (Gst.le_refl hr.len) hI.sh rfl (fun h=>absurd rfl h) ⟨fun ht=>?_,fun⟨a,c,e⟩=>(by cases e)⟩ rfl ⟨[],rfl,rfl⟩ hsl (fun j o' t hj hkj hd _=>hI.ztx (.refl hr) hj hkj hd) (fun ρ' k m _ _ hm=>FxK.put (.refl hr) hm) (fun ρ' Y st' me' D' hI' hall hρ hi hFt=>?_) h
     ·rw[(zrs ho).2 ht] at hnh;cases hnh
     ·intro o2 d2 b2 ho2 hib2
      rw[ho] at ho2;cases ho2
      rw[hib] at hib2;cases hib2
      refine⟨Ev.all fun f=>?_,fun call=>by rw[hi];rfl⟩
      unfold zcb
      rw[j8,hib]
      simp only[hw ρ' hρ,hi]
    have go:(∀ ρ':Nat->Rec,(∀ k,bit D k=true->ρ' k=ρ k)->zhH l o b ((kH ρ' i).map Rec.val)=some true) ->
      (match kindOf P o.op with
       |.hole t=>match ziS P t with
        |some z=>match zvZ (zw9 P t) z st.h with
         |some (v,h)=>match zaD st.env o.dst v with|some env=>sdr P gl ct n pl l (infos l []) (jM P l 0) (xX P l 0) (D ||| (1 <<< i)) sl p ⟨env,h⟩ K|none=>none
         |none=>none
        |none=>none
       |.quiet=>alts (fun r=>match r with
        |.val v h=>match zmE (infos l []) (jM P l 0) i b with
         |false=>match zaD st.env o.dst v with|some env=>sdr P gl ct n pl l (infos l []) (jM P l 0) (xX P l 0) (D ||| (1 <<< i)) sl p ⟨env,h⟩ K|none=>none
         |true=>match zAl st.h (zpu gl (infos l []) st.env i b) o.op with
          |some none=>match zaD st.env o.dst v with|some env=>sdr P gl ct n pl l (infos l []) (jM P l 0) (xX P l 0) (D ||| (1 <<< i)) sl p ⟨env,h⟩ K|none=>none
          |some (some loc)=>match zpv h i loc sl with
           |some (h,sl)=>match zaD st.env o.dst v with|some env=>sdr P gl ct n pl l (infos l []) (jM P l 0) (xX P l 0) (D ||| (1 <<< i)) sl p ⟨env,h⟩ K|none=>none
           |none=>none
          |none=>none
        |_=>none) (sop P gl (zpu gl (infos l []) st.env i b) st.h o.op)
       |.act=>alts (fun r=>match r with
        |.val v h=>match zaD st.env o.dst v with|some env=>sdr P gl ct n pl l (infos l []) (jM P l 0) (xX P l 0) (D ||| (1 <<< i)) (zbv b sl) p ⟨env,h⟩ K|none=>none
        |.unit h=>match zaD st.env o.dst (.tup []) with|some env=>sdr P gl ct n pl l (infos l []) (jM P l 0) (xX P l 0) (D ||| (1 <<< i)) (zbv b sl) p ⟨env,h⟩ K|none=>none
        |.dfr f args cap=>none
        |.call (.inl f) args=>zao P gl ct n (pl.at i f) f args (zd8 (zbv b sl) sl st.h) fun r=>match r with
         |.ret v h=>match zaD st.env o.dst v with|some env=>sdr P gl ct n pl l (infos l []) (jM P l 0) (xX P l 0) (D ||| (1 <<< i)) (zbv b sl) p ⟨env,h⟩ K|none=>none
         |.pan v h=>none
        |.call (.inr _) _=>none) (sop P gl (zpu gl (infos l []) st.env i b) (zd8 (zbv b sl) sl st.h) o.op))=some r->Rs1 P hk l env0 X0 hs ρ D X sl K r:=by
     intro hw h
     have hrel:=zeU (P:=P) (gl:=gl) (I:=infos l []) (i:=i) (b:=b) hI.env hg
     have now:∀ {ρ':Nat->Rec} {k:Nat},(∀ k,bit D k=true->ρ' k=ρ k)->k<=l.length->(∀ j,bit (jM P l 0) j=true->bit D j=true->j<k)->(∀ j,j<k->(ρ' j).hp≠none->bit D j=true)->hF ρ' (H0 X0 hs) k=X.h:=
      fun hρ hk h1 h2=>(znJ hI hρ h2).trans (zrq hI hk h1)
     cases hkd:kindOf P o.op with
     |hole t=>
      rw[hkd] at h
      have hna:bit (jM P l 0) i=false:=by
       cases e:bit (jM P l 0) i with
       |false=>rfl
       |true=>have:=(zh3 ho).1 e;rw[hkd] at this;cases this
      have hho:=hok.hole hna ((zrs ho).2 ⟨t,hkd⟩)
      simp only at h
      split at h
      ·rename_i z hz
       split at h
       ·rename_i v h1 hbx
        obtain⟨x,hzx,hvx⟩:=kf (X:=X) hz
        unfold zvZ at hbx
        split at hbx
        ·rename_i hwh
         cases hbx
         have hcs:=hvx.ziW hwh
         obtain⟨x',hx1,hx2⟩:=zdf hhs ho hkd
         rw[hzx] at hx1;cases hx1
         obtain⟨u1,u2,u3,u4⟩:=hI.un i o t ho hkd hok.new
         have hrow:X.h[mH P l X0 i]?=some (.row x.cells 0 0 0 false (some t)):=by rw[hI.hh,u4 _ (yd _),hx2]
         obtain⟨S1,hle1⟩:=zAX (m:=mH P l X0 i) hI.stp (zrW P t) (Nat.le_add_right _ _) u1 u2 u3 hrow hcs
         have hop:=zfO hkd
         split at h
         ·rename_i env1 hset
          obtain⟨me1,hD1⟩:=hI.put (r:=.hole (mH P l X0 i) x.cells.length) (X1:=⟨X.h,X.Φ,X.σ++[some (mH P l X0 i,0)],X.sh++[.cells z.cells 0 (zw9 P t)]⟩) hdst ho hib hok S1 hle1 (by rw[hI.sh]) rfl (fun h=>absurd rfl h) ⟨fun _=>⟨_,_,rfl⟩,fun _=>⟨t,hkd⟩⟩ rfl
           (show RV _ (.ptr st.h.length 0 z.cells.length) (.ptr (mH P l X0 i) 0 0 x.cells.length) from⟨mH P l X0 i,⟨0,by show(X.σ++[_])[st.h.length]?=_;rw[<- hI.sh,<- hr.len,yu (yd _),vh];rfl⟩,by rw[hcs.length]⟩) hset
           (fun j o' t' hj hkj hd hne=>by
            obtain⟨w1,w2,w3,_⟩:=hI.un j o' t' hj hkj hd
            refine⟨rfl,w1,fun k v hs=>?_,w3⟩
            rcases qq hs with q|⟨_,q⟩
            ·exact w2 k v q
            ·have e:mH P l X0 i=mH P l X0 j:=by injection q with q;exact(vp q).1
             unfold mH at e
             rcases Nat.lt_or_gt_of_ne hne with hlt|hlt
             ·have:=zvO hj hkj hlt;omega
             ·have:=zvO ho hkd hlt;omega)
          refine Rs1.join (r:=.hole (mH P l X0 i) x.cells.length) (X1:=⟨X.h,X.Φ,X.σ++[some (mH P l X0 i,0)],X.sh++[.cells z.cells 0 (zw9 P t)]⟩) hI ho hok (sl1:=sl) (fun ρ' k m hρi _ hm=>⟨?_,rfl⟩) (fun ρ' Y st' me' D' hI' hall hρ hi hFt=>?_) (ihD _ _ _ R _ K r _ _ me1 h hD1 (hg.le hle1) hsl) (fun h=>absurd rfl h)
          ·refine hm.imp id fun⟨hm,hm2⟩=>⟨⟨hm.1,fun hU=>hm.2.1 (UD.put hU),fun i' v' b' hb' hs'=>?_⟩,fun i' v' b' hs' hb' hng hp=>?_⟩
           ·rcases qq hs' with q|⟨_,q⟩
            ·have hi':=(ya.1 q).1
             dsimp only at hb'
             rw[yi (by rw[<- hr.len];exact hi')] at hb'
             exact hm.2.2 i' v' b' hb' q
            ·have e:mH P l X0 i=m:=by injection q with q;exact(vp q).1
             exact absurd ⟨i,o,t,ho,hkd,hok.new,e.symm⟩ hm.2.1
           ·rcases qq hs' with q|⟨_,q⟩
            ·have hi':=(ya.1 q).1
             dsimp only at hb'
             rw[yi (by rw[<- hr.len];exact hi')] at hb'
             obtain⟨p',k1,k2,k3⟩:=hm2 i' v' b' q hb' hng hp
             exact⟨p',k1,k2,k3.put⟩
            ·have e:mH P l X0 i=m:=by injection q with q;exact(vp q).1
             exact absurd ⟨i,o,t,ho,hkd,hok.new,e.symm⟩ hm.2.1
          ·intro o2 d2 b2 ho2 hib2
           rw[ho] at ho2;cases ho2
           rw[hib] at hib2;cases hib2
           have past:∀ k,k<=l.length->(∀ j,j<k->(ρ' j).hp≠none->bit D j=true)->zq4 P t (mH P l X0 i) (hF ρ' (H0 X0 hs) k)=true:=fun k hk hj=>by
            unfold zq4
            rw[znJ hI hρ hj,hzx,u4 k hk,hx2]
            simp only[zcI,vg,vw]
           refine⟨Ev.all fun f=>?_,fun call=>?_⟩
           ·unfold zcb
            rw[j8,hib]
            simp only[hw ρ' hρ,zkF,hkd,hzx]
            rw[hi,zmr (yS hil) fun k o' hk'=>hI'.hk k o' hk' (hall k (ya.1 hk').1)]
            rfl
           ·rw[hi]
            show(match o.op with|.alloc t=>yQ (mH P l X0 i) (H0 X0 hs).length&&goQ (zq4 P t (mH P l X0 i)) i b (kH ρ' l.length) (infos l []) 0 (H0 X0 hs)|_=>false)=true
            rw[hop]
            simp only[yc]
            refine⟨?_,zvG hlen (fun k hk hne hb hp=>?_) fun hp=>?_⟩
            ·have:=(ya.1 hx2).1
             exact Nat.ble_eq_true_of_le (show mH P l X0 i+1<=(X0.h++hs).length by rw[Arr.ql];unfold mH;omega)
            ·refine past k (yS hk) fun j hj hnj=>?_
             have ha:=hI'.rk k hne
             have haj:=hI'.rk j hnj
             cases hd:bit D k with
             |true=>exact hI.ai j k haj ha hj hd
             |false=>
              cases hbj:bit b j with
              |true=>exact hok.sub j hbj
              |false=>
               rcases hho j haj with h4|⟨d',m',h5,h6⟩
               ·exact h4
               ·have:=hp j d' m' hj h5 hnj hbj;rw[h6] at this;cases this
            ·refine past _ (yd _) fun j hj hnj=>?_
             have haj:=hI'.rk j hnj
             cases hbj:bit b j with
             |true=>exact hok.sub j hbj
             |false=>
              rcases hho j haj with h4|⟨d',m',h5,h6⟩
              ·exact h4
              ·have:=hp j d' m' hj h5 hnj hbj;rw[h6] at this;cases this
         ·cases h
        ·cases hbx
       ·cases h
      ·cases h
     |quiet=>
      rw[hkd] at h
      have hna:bit (jM P l 0) i=false:=by
       cases e:bit (jM P l 0) i with
       |false=>rfl
       |true=>have:=(zh3 ho).1 e;rw[hkd] at this;cases this
      have hnh:bit (xX P l 0) i=false:=by
       cases e:bit (xX P l 0) i with
       |false=>rfl
       |true=>obtain⟨t,e⟩:=(zrs ho).1 e;rw[hkd] at e;cases e
      have hqt:=hok.quiet hna hnh
      simp only at h
      obtain⟨q,hq,h⟩:=zke h
      rw[<- hI.sh] at hq
      obtain⟨rs,hm,hrs⟩:=zgd hr hg hrel hq
      cases q with
      |val v sh'=>
       cases rs with
       |val x h'=>
        obtain⟨Y,S1,hsh,hh,hv⟩:=hrs
        have hh':h'=X.h:=zp1 hkd hm
        subst hh'
        have fini:∀ (X1:Gst) (sh2:SH) (sl1:List (Nat×Nat)),Stp X X1->X1.h=X.h->X1.sh=sh2->RV X1 v x->ztQ X0 sl1->(∀ ρ' k m,FxK P l X0 ρ' D X sl k m->FxK P l X0 ρ' (D ||| (1 <<< i)) X1 sl1 k m/\X1.h[m]?=X.h[m]?) ->
          (zmE (infos l []) (jM P l 0) i b=false\/(MFr P (emD P gl (infos l []) st.env me X.h i b) o.op\/∃ t o' m off ver lim,o.op=.load t o'/\emD P gl (infos l []) st.env me X.h i b o'=some (.ptr m off ver lim)/\∀ ρ' k,hold l ρ' (D ||| (1 <<< i)) k i->FxK P l X0 ρ' (D ||| (1 <<< i)) X1 sl1 k m)) ->
          (match zaD st.env o.dst v with|some env=>sdr P gl ct n pl l (infos l []) (jM P l 0) (xX P l 0) (D ||| (1 <<< i)) sl1 p ⟨env,sh2⟩ K|none=>none)=some r->Rs1 P hk l env0 X0 hs ρ D X sl K r:=by
         intro X1 sh2 sl1 S2 hh2 hsh2 hv2 hsl1 hfk hcase h
         refine fin (.quiet x) X1 st.env v sh2 sl1 (hI.stp.trans S2) S2.le hsh2 hh2 (fun h=>absurd rfl h) ⟨fun⟨t,e⟩=>(by rw[hkd] at e;cases e),fun⟨a,c,e⟩=>(by cases e)⟩ rfl hv2 hsl1 (fun j o' t hj hkj hd _=>hI.ztx S2 hj hkj hd) (fun ρ' k m _ _ hm=>hfk ρ' k m hm) (fun ρ' Z st' me' D' hI' hall hρ hi hFt=>?_) h
         have good:∀ k,k<=l.length->(∀ j,bit (jM P l 0) j=true->bit D j=true->j<k)->(zmE (infos l []) (jM P l 0) i b=false->∀ j,j<k->(ρ' j).hp≠none->bit D j=true)->hold l ρ' (D ||| (1 <<< i)) k i ->
           ∀ vs:List AV,(∀ j,bit b j=true->vs[j]?=some (ρ j).val)->mop P (evD P (infos l []) env0 vs i b (hF ρ' (H0 X0 hs) k)) (hF ρ' (H0 X0 hs) k) o.op=some (.val x (hF ρ' (H0 X0 hs) k)):=by
          intro k hk hDk hnr hho vs hvs
          have hfx:∀ m,FxK P l X0 ρ' (D ||| (1 <<< i)) X1 sl1 k m->(hF ρ' (H0 X0 hs) k)[m]?=X.h[m]?:=fun m hm=>by
           rw[hFt k hk (fun j h8 h9=>?_) m hm,hh2]
           rw[zbY] at h9
           simp only[yn,decide_eq_true_eq] at h9
           rcases h9 with h9|rfl
           ·exact hDk j h8 h9
           ·rw[hna] at h8;cases h8
          have hΦ:∀ m,X.Φ m->(hF ρ' (H0 X0 hs) k)[m]?=X.h[m]?:=fun m hm=>hfx m (.inl (S2.le.Φ m hm))
          have hev:=zvB hI hg hdst hok hvs hΦ
          rcases hcase with hc|hc|⟨t,o',m,off,ver,lim,hop,he,hfm⟩
          ·have e:=now hρ hk hDk (hnr hc)
           rw[e] at hev |-
           exact zhR hev hm
          ·exact hc _ _ _ _ _ hev hm
          ·rw[hop] at hm |-
           refine zuo hev (fun loc off' ver' lim' hl=>?_) hm
           rw[he] at hl;cases hl
           exact hfx m (hfm ρ' k hho)
         intro o2 d2 b2 ho2 hib2
         rw[ho] at ho2;cases ho2
         rw[hib] at hib2;cases hib2
         have hrc:=fun hc=>zqg (I:=infos l []) (am:=jM P l 0) (i:=i) (b:=b) hc
         have hlo:∀ (a:Nat) (d':Option Nat) (m':Nat),(infos l [])[a]?=some (d',m')->bit m' i=true->i<a:=fun a d' m' ha hb=>by
          have hal:a<l.length:=by rw[<- hlen];exact(ya.1 ha).1
          exact(hI'.cl a d' m' ha (hall a hal) i hb).2
         refine⟨Ev.all fun f=>?_,fun call=>?_⟩
         ·unfold zcb
          rw[j8,hib]
          simp only[hw ρ' hρ,zkF,hkd,zkA]
          unfold zkU
          rw[good i (yS hil) (fun j h8 h9=>hok.low j (hqt j h9 h8)) (fun hc j hj hne=>(hrc hc j (hI'.rk j hne)).elim (hok.sub j) fun h=>absurd h.1 (by omega)) (fun a d' m' h1 h2 _ _=>by cases hb:bit m' i with|false=>rfl|true=>have:=hlo a d' m' h2 hb;omega) _ (zm6 hρ hok (yd _))]
          simp only[hi]
         ·rw[hi]
          have cq:∀ k,k<=l.length->(∀ j,bit (jM P l 0) j=true->bit D j=true->j<k)->(zmE (infos l []) (jM P l 0) i b=false->∀ j,j<k->(ρ' j).hp≠none->bit D j=true)->hold l ρ' (D ||| (1 <<< i)) k i->zq5 P noQ call (infos l []) env0 ((kH ρ' l.length).map Rec.val) i b o x (hF ρ' (H0 X0 hs) k)=true:=fun k hk h1 h2 h3=>by
           unfold zq5 zkU
           rw[good k hk h1 h2 h3 _ (zm6 hρ hok (yS hil))]
           exact beq_refl x
          have live:∀ k,(∀ (j:Nat) (d:Option Nat) (m:Nat),j<k->(infos l [])[j]?=some (d,m)->(ρ' j).hp≠none->bit b j=false->bit m i=false)->zmE (infos l []) (jM P l 0) i b=false->∀ j,j<k->(ρ' j).hp≠none->bit D j=true:=fun k hp hc j hj hne=>by
           cases hbj:bit b j with
           |true=>exact hok.sub j hbj
           |false=>
            rcases hrc hc j (hI'.rk j hne) with h4|⟨_,d',m',h5,h6⟩
            ·rw[hbj] at h4;cases h4
            ·have:=hp j d' m' hj h5 hne hbj;rw[h6] at this;cases this
          have hld:∀ k,(∀ (j:Nat) (d:Option Nat) (m:Nat),j<k->(infos l [])[j]?=some (d,m)->(ρ' j).hp≠none->bit b j=false->bit m i=false)->hold l ρ' (D ||| (1 <<< i)) k i:=fun k hp a d' m' h1 h2 h3 h4=>by
           refine hp a d' m' h1 h2 h3 ?_
           rw[zbY] at h4
           simp only[vi] at h4
           cases hb:bit b a with
           |false=>rfl
           |true=>have:=hok.sub a hb;rw[h4.1] at this;cases this
          refine zvG hlen (fun k hk hne hb hp=>cq k (yS hk) (fun j h8 h9=>?_) (live k hp) (hld k hp)) fun hp=>cq _ (yd _) (fun j h8 h9=>zAY h8) (live _ hp) (hld _ hp)
          have ha:=hI'.rk k hne
          have hdk:bit D k=false:=by
           cases e:bit D k with
           |false=>rfl
           |true=>have:=hqt k e ha;rw[hb] at this;cases this
          rcases Nat.lt_trichotomy j k with h4|h4|h4
          ·exact h4
          ·subst h4;rw[hdk] at h9;cases h9
          ·have:=hI.ai k j ha h8 h4 h9;rw[hdk] at this;cases this
        simp only at h
        split at h
        ·rename_i hc;exact fini Y sh' sl S1 hh hsh hv hsl (fun ρ' k m hm=>FxK.put S1 hm) (.inl hc) h
        ·rename_i hc
         split at h
         ·rename_i hrc
          obtain⟨X1,q1,q2,q3,q4,q6,q7,q5⟩:=zsB (x:=none) (sh2:=sh') (sl1:=sl) hI hg hq (hI.sh ▸ hrc) S1 hh hsh hsl ⟨rfl,rfl⟩ hkd
          exact fini X1 sh' sl q1 q2 q3 (hv.le q4) q6 q7 (.inr q5) h
         ·rename_i loc hrc
          split at h
          ·rename_i sh2 sl2 hs2
           obtain⟨X1,q1,q2,q3,q4,q6,q7,q5⟩:=zsB (x:=some loc) (sh2:=sh2) (sl1:=sl2) hI hg hq (hI.sh ▸ hrc) S1 hh hsh hsl hs2 hkd
           exact fini X1 sh2 sl2 q1 q2 q3 (hv.le q4) q6 q7 (.inr q5) h
          ·cases h
         ·cases h
       |_=>cases hrs
      |_=>cases h
     |act=>
      rw[hkd] at h
      have ha:=(zh3 ho).2 hkd
      obtain⟨hA1,hA2⟩:=hok.act ha
      simp only at h
      obtain⟨q,hq,h⟩:=zke h
      obtain⟨hIr,hler⟩:=hI.open_ hsl (zbv b sl)
      have hrr:=hIr.stp.hr
      have hgr:=hg.le hler
      have hrel:=zeU (P:=P) (gl:=gl) (I:=infos l []) (i:=i) (b:=b) hIr.env hgr
      rw[<- hI.sh] at hq
      obtain⟨rs,hm,hrs⟩:=zgd hrr hgr hrel hq
      have hslk:ztQ X0 (zbv b sl):=fun p hp=>hsl p (zfM.1 hp).1
      have fini:∀ (X1:Gst) (v:SV) (x:AV) (sh2:SH),Stp ⟨X.h,X.Φ,X.σ,zd8 (zbv b sl) sl X.sh⟩ X1->X1.sh=sh2->RV X1 v x->(∀ e,(∀ y w,emD P gl (infos l []) st.env me X.h i b y=some w->e y=some w)->Ev fun f=>zkU P (jU P hk (jO P hk f)) e X.h o.op=some (x,X1.h)) ->
        (match zaD st.env o.dst v with|some env=>sdr P gl ct n pl l (infos l []) (jM P l 0) (xX P l 0) (D ||| (1 <<< i)) (zbv b sl) p ⟨env,sh2⟩ K|none=>none)=some r->Rs1 P hk l env0 X0 hs ρ D X sl K r:=by
       intro X1 v x sh2 S2 hsh2 hv2 hme h
       refine fin (.act x X1.h) X1 st.env v sh2 (zbv b sl) (hIr.stp.trans S2) (Gst.le_trans hler S2.le) hsh2 rfl (fun _=>hkd) ⟨fun⟨t,e⟩=>(by rw[hkd] at e;cases e),fun⟨a,c,e⟩=>(by cases e)⟩ rfl hv2 hslk (fun j o' t hj hkj hd _=>hIr.ztx S2 hj hkj hd) (fun ρ' k m hρi hik hm=>?_) (fun ρ' Z st' me' D' hI' hall hρ hi hFt=>?_) h
       ·have hik:=hik (by simp [Rec.hp])
        have hlive:(ρ' i).hp≠none:=by rw[hρi];simp [Rec.hp]
        refine FxK.put S2 (hm.imp id fun⟨hm1,hm2⟩=>?_)
        have keyk:∀ (loc v:Nat) (b0:SB),X.σ[loc]?=some (some (m,v))->X.sh[loc]?=some b0->b0≠.gone->(∃ p ∈ sl,p.2=loc)->∃ p ∈ zbv b sl,p.2=loc/\hold l ρ' D k p.1:=fun loc v b0 hs0 hb0 hng hp=>by
         obtain⟨p,k1,k2,k3⟩:=hm2 loc v b0 hs0 hb0 hng hp
         exact⟨p,zfM.2 ⟨k1,k3 i o.dst b hik hib hlive hok.new⟩,k2,k3⟩
        have hob:∀ (loc v:Nat) (b1:SB),X.σ[loc]?=some (some (m,v))->(zd8 (zbv b sl) sl X.sh)[loc]?=some b1->X.sh[loc]?=some b1:=fun loc v b1 hs0 hb1=>by
         have hi:loc<X.sh.length:=by rw[<- hr.len];exact(ya.1 hs0).1
         obtain⟨b',q1,q2⟩:=zf2 (kept:=zbv b sl) (sl:=sl) (yb hi)
         rw[hb1] at q1;cases q1
         rcases q2 with q2|⟨r1,r2,r3,p,r4,r5⟩
         ·rw[q2];exact yb hi
         ·by_cases hg0:(X.sh[loc]'hi)=.gone
          ·rw[r2,hg0];exact(yb hi).trans (by rw[hg0];rfl)
          ·obtain⟨p',k1,k2,_⟩:=keyk loc v _ hs0 (yb hi) hg0 ⟨p,r4,r5⟩
           rw[zcN.2 ⟨p',k1,k2⟩] at r3;cases r3
        refine⟨⟨hm1.1,hm1.2.1,fun loc v b1 hb1 hs0=>hm1.2.2 loc v b1 (hob loc v b1 hs0 hb1) hs0⟩,fun loc v b1 hs0 hb1 hng hp=>?_⟩
        obtain⟨p,k1,k2⟩:=hp
        exact keyk loc v b1 hs0 (hob loc v b1 hs0 hb1) hng ⟨p,(zfM.1 k1).1,k2⟩
       intro o2 d2 b2 ho2 hib2
       rw[ho] at ho2;cases ho2
       rw[hib] at hib2;cases hib2
       have e:=now (k:=i) hρ (yS hil) (fun j h8 h9=>(hA2 j h8).1 h9) fun j hj hne=>(hA2 j (hI'.rk j hne)).2 hj
       have hin:zdy b 0 (kH ρ' i)=true:=zqJ fun j hj hne=>hA1 j ((hA2 j (hI'.rk j hne)).2 hj) (hI'.rk j hne)
       refine⟨(hme _ (zvB hIr hgr hdst hok (zm6 hρ hok (yd i)) fun _ _=>rfl)).mono fun f hf=>?_,fun call=>by rw[hi];rfl⟩
       unfold zcb
       rw[j8,hib]
       simp only[hw ρ' hρ,zkF,hkd,zkA,hin,e,hf,hi]
      cases q with
      |val v sh'=>
       cases rs with
       |val x h'=>
        obtain⟨Y,S1,hsh,hh,hv⟩:=hrs
        exact fini Y v x sh' S1 hsh hv (fun e he=>Ev.all fun f=>by unfold zkU;rw[zhR he hm,hh]) h
       |_=>cases hrs
      |unit sh'=>
       cases rs with
       |unit h'=>
        obtain⟨Y,S1,hsh,hh⟩:=hrs
        exact fini Y (.tup []) (.tup []) sh' S1 hsh ⟨[],rfl,rfl⟩ (fun e he=>Ev.all fun f=>by unfold zkU;rw[zhR he hm,hh]) h
       |_=>cases hrs
      |dfr f a c=>cases h
      |call c args=>
       cases c with
       |inr loc=>cases h
       |inl f=>
        cases rs with
        |call c' margs=>
         cases c' with
         |y _=>cases hrs
         |f f'=>
          obtain⟨rfl,hargs⟩:=hrs
          simp only at h
          rw[<- hI.sh] at h
          obtain⟨q,Y,mq,h1,S1,hcr,ev1⟩:=ihF i f R args _ r ⟨X.h,X.Φ,X.σ,zd8 (zbv b sl) sl X.sh⟩ margs h hargs hrr hgr
          cases q with
          |ret v sh'=>
           cases mq with
           |pan=>cases hcr
           |ret x h'=>
            obtain⟨hsh,hh,hv⟩:=hcr
            exact fini Y v x sh' S1 hsh hv (fun e he=>ev1.mono fun f p=>by unfold zkU;rw[zhR he hm];simp only[p,hh]) h1
          |pan v sh'=>cases h1
        |_=>cases hrs
    split at h
    ·rename_i hgd
     exact go (fun _ _=>zqw hgd) h
    ·rename_i j w hgd
     split at h
     ·rename_i hbj hnh
      split at h
      ·rename_i t c hgv
       obtain⟨⟨q,hq,hqd⟩,hval,hst⟩:=znH hI hgv (hok.sub j hbj)
       have hw:∀ ρ':Nat->Rec,(∀ k,bit D k=true->ρ' k=ρ k)->zhH l o b ((kH ρ' i).map Rec.val)=some (c==w):=fun ρ' hρ=>
        zqy hgd hbj hq hqd (by rw[zm6 hρ hok (yd i) j hbj,hval])
       cases c with
       |true=>
        simp only[cond_true,hst] at h
        cases w with
        |true=>exact go hw h
        |false=>exact off hw hnh h
       |false=>
        simp only[cond_false,hst] at h
        cases w with
        |true=>exact off hw hnh h
        |false=>exact go hw h
      ·split at h
       ·rename_i hsk
        obtain⟨q,t,vs,hq,hqd,hval⟩:=zlQ hI hsk (hok.sub j hbj)
        exact off (fun ρ' hρ=>zqx hgd hbj hq hqd (by rw[zm6 hρ hok (yd i) j hbj,hval])) hnh h
       ·cases h
     ·cases h
  ·cases h
theorem zuN{pl:Pl}:zx4 P gl ct hk l env0 X0 hs 0 pl:=by
 intro D sl p R st K r ρ X me h hI hg _
 unfold sdr at h
 cases h
theorem zmG{n:Nat}{pl:Pl}{R:Type}{K:SS->Option R}{r:R}{p:List Nat}{ms:St}(hb:(zh5 l&&zfA (infos l []))=true)(hao:zh0 P l (infos l []) 0 0=true)(hhs:xO P l=some hs)
  (ih:zx4 P gl ct hk l ms.env X hs n pl) (h:sdr P gl ct n pl l (infos l []) (jM P l 0) (xX P l 0) 0 [] p st K=some r) {k0:Nat×Option Nat} (hsr:StR k0 X st ms) (hr:RH X) (hg:RGl P gl X):
  ∃ st' Y ms',K st'=some r/\Stp X Y/\StR k0 Y st' ms'/\Ev fun f=>zji ms.rnd (zat P (zhw P (qfn P hk 4) l) (jU P hk (jO P hk f)) l ms.env ms.h ms.dl)=some (.normal,ms'):=by
 simp only[yc] at hb
 have G0:=Stp.grow hr hs
 have hnone:∀ k,hF (fun _=>Rec.off) (H0 X hs) k=H0 X hs:=fun k=>by
  induction k with
  |zero=>rfl
  |succ k ih=>exact ih
 have hI0:DI P l ms.env X hs (fun _=>.off) 0 ⟨X.h++hs,X.Φ,X.σ,X.sh⟩ st ms.env:=by
  refine⟨G0,hsr.env.le G0.le,hsr.sh,(hnone _).symm,fun _ _=>rfl,fun k t m _ h=>?_,fun t _=>rfl,fun k t m _ h=>?_,rfl,fun k d m _ h=>?_,fun k k' _ _ _ h=>?_,fun k h=>absurd rfl h,fun k o _ h=>?_,fun i o t ho hk _=>?_⟩
  ·rw[zaK] at h;cases h
  ·rw[zaK] at h;cases h
  ·rw[zaK] at h;cases h
  ·rw[zaK] at h;cases h
  ·rw[zaK] at h;cases h
  ·obtain⟨z,h1,h2⟩:=zdf hhs ho hk
   have hlt:=(ya.1 h2).1
   refine⟨by show _<(X.h++hs).length;rw[Arr.ql];unfold mH;omega,fun j v hj=>?_,fun hΦ=>?_,fun k _=>?_⟩
   ·have:=hr.lt j _ v hj;unfold mH at this;omega
   ·have:=hr.Φlt _ hΦ;unfold mH at this;omega
   ·rw[hnone]
    show(X.h++hs)[mH P l X i]?=_
    rw[Arr.z7 (by unfold mH;omega)]
    unfold mH
    rw[Nat.add_sub_cancel_left]
 obtain⟨st',Y,me',ρ',D',h1,hI,hall,S,_,_,hst⟩:=ih 0 [] p R st K r _ _ ms.env h hI0 (hg.le G0.le) (fun p hp=>by cases hp)
 have hlen:(infos l []).length=l.length:=kV _ _
 obtain⟨mf,hmf⟩:=zrf (I:=infos l []) (recs:=kH ρ' l.length) (env:=ms.env) fun k d m hk=>by
  have hkl:k<l.length:=by rw[<- hlen];exact(ya.1 hk).1
  have:=hI.dl k d m hk (hall k hkl);rw[<- hI.ml];exact this
 obtain⟨f1,f2,f3⟩:=zig (by rw[hlen,j8]) hmf
 have hmf':mf.toL=me'.toL:=by
  refine yN fun t=>?_
  rw[Arr.jT,Arr.jT]
  have hl:mf.length=me'.length:=by rw[f1,hI.ml]
  cases hx:mf[t]? with
  |none=>
   have h1:mf.toL[t]?=none:=by rw[Arr.jT];exact hx
   have h2:=yw.1 h1
   have h3:me'.toL[t]?=none:=yw.2 (by rw[Arr.xd] at h2 |-;omega)
   rw[Arr.jT] at h3;exact h3.symm
  |some x=>
   rcases f3 t x hx with⟨k,m,r',e1,e2,e3⟩|⟨e1,e2⟩
   ·have hkl:k<l.length:=by rw[<- hlen];exact(ya.1 e1).1
    rw[zf5 hkl] at e2;cases e2
    rw[hI.e2 k t m e1 (hall k hkl),e3]
   ·rw[hI.e3 t fun k m hk=>absurd hk (e1 k m)];exact e2.symm
 have hheap:zi8 (H0 X hs) (kH ρ' l.length)=Y.h:=by rw[zkA];exact hI.hh.symm
 refine⟨st',Y,⟨mf,Y.h,ms.dl,ms.rnd⟩,h1,S,⟨hmf' ▸ hI.env,hI.sh,rfl,hsr.dk.step hr S⟩,?_⟩
 have hev:Ev fun f=>∀ i,i<l.length->∀ o,l[i]?=some o->zcb P noQ (jU P hk (jO P hk f)) l (infos l []) ms.env X.h.length (H0 X hs) (kH ρ' i) o=some (ρ' i):=by
  have key:∀ c,c<=l.length->Ev fun f=>∀ i,i<c->∀ o,l[i]?=some o->zcb P noQ (jU P hk (jO P hk f)) l (infos l []) ms.env X.h.length (H0 X hs) (kH ρ' i) o=some (ρ' i):=by
   intro c
   induction c with
   |zero=>exact fun _=>Ev.all fun f i hi=>absurd hi (vN _)
   |succ c ih=>
    intro hc
    have hco:l[c]?=some (l[c]'(by omega)):=yb (by omega)
    obtain⟨m,hm,_⟩:=zaM hco
    refine((ih (by omega)).and (hst c (by omega) zaK _ _ _ hco hm).1).mono fun f ⟨q1,q2⟩ i hi o ho=>?_
    by_cases e:i=c
    ·subst e;rw[hco] at ho;cases ho;exact q2
    ·exact q1 i (by omega) o ho
  exact key _ (yd _)
 refine hev.mono fun f hf=>?_
 rw[show zhw P (qfn P hk 4) l=noQ by unfold zhw;rw[hao]]
 unfold zat
 rw[hb.1,hb.2,hhs]
 simp only[vS]
 unfold zgz
 rw[<- hsr.h]
 rw[show X.h++hs=H0 X hs from rfl,zvd fun i o ho=>hf i (ya.1 ho).1 o ho]
 simp only
 rw[zwE hlen fun i o d b ho hi=>(hst i (ya.1 ho).1 zaK o d b ho hi).2 _]
 simp only[hmf,zjY,hheap,zji]
end
end Go.Sx
namespace Go.Sx
open Go Go.Gx Go.Mx
variable [kF]
section
variable {P:Program} {gl:GL} {ct:CT} {hk:wJ}
theorem xx.l2{pl:Pl}{a b:Code}(h:xx P gl hk pl (.seq a b)):xx P gl hk pl.l a/\xx P gl hk pl.r b:=by
 cases pl with
 |two x y=>exact h
 |by_ g=>cases h
 |_=>exact⟨trivial,trivial⟩
theorem xx.c2{pl:Pl}{c:Operand}{a b:Code}(h:xx P gl hk pl (.cond c a b)):xx P gl hk pl.l a/\xx P gl hk pl.r b:=by
 cases pl with
 |two x y=>exact h
 |by_ g=>cases h
 |_=>exact⟨trivial,trivial⟩
theorem xx.b1{pl:Pl}{id:Nat}{a:Code}(h:xx P gl hk pl (.block id a)):xx P gl hk pl.i a:=by
 cases pl with
 |one x=>exact h
 |_=>exact trivial
theorem xx.f1{pl:Pl}{a:Code}(h:xx P gl hk pl (.loop a))(hb:∀ g,pl≠.by_ g):xx P gl hk pl.f a/\xx P gl hk pl.nx (.loop a):=by
 cases pl with
 |one x=>exact⟨h,h⟩
 |two x y=>exact h
 |by_ g=>exact absurd rfl (hb g)
 |auto=>exact⟨trivial,trivial⟩
 |cal _ _ _ _=>exact⟨trivial,h⟩
 |yl _ _ _ _ _=>exact⟨trivial,h⟩
theorem xx.y{i id:Nat}{ps:Array Tmp}{asg body:Code}(hc:kF.at_ id=some (ps,asg,body)):∀ {pl:Pl} {c:Code},xx P gl hk pl c->xx P gl hk (pl.y i id).1 asg/\xx P gl hk (pl.y i id).2 body
 |.auto,_,_=>⟨trivial,trivial⟩
 |.two _ _,_,_=>⟨trivial,trivial⟩
 |.one _,_,_=>⟨trivial,trivial⟩
 |.by_ _,_,_=>⟨trivial,trivial⟩
 |.cal j g a rest,c,h=>xx.y hc (pl:=rest) h.2
 |.yl j d a b rest,c,h=>by
  unfold Pl.y
  split
  ·rename_i h1 h2
   cases zj h2
   exact h.1 _ _ _ hc
  ·exact xx.y hc h.2
theorem xx.at_{i:Nat}{f:FuncId}{fn:Func}{b:Code}(hf:P.funcs[f]?=some fn)(hb:fn.body=some b):∀ {pl:Pl} {c:Code},xx P gl hk pl c->xx P gl hk (pl.at i f) b
 |.auto,_,_=>trivial
 |.two _ _,_,_=>trivial
 |.one _,_,_=>trivial
 |.by_ _,_,_=>trivial
 |.yl _ _ _ _ rest,c,h=>xx.at_ hf hb (pl:=rest) h.2
 |.cal j g a rest,c,h=>by
  unfold Pl.at
  split
  ·rename_i h1 h2
   have h2:=zj h2
   subst h2
   exact h.1 fn b hf hb
  ·exact xx.at_ hf hb h.2
def zCb(P:Program)(gl:GL)(hk:wJ)(ops:Array Oper)(l:List Oper)(f:LF):Prop:=∀ (k:Nat×Option Nat) (R:Type) (st:SS) (K:SX->SS->Option R) (r:R) (X:Gst) (ms:St),f R st K=some r->StR k X st ms->RH X->RGl P gl X ->
 ∃ e st' Y me ms',K e st'=some r/\Stp X Y/\StR k Y st' ms'/\ExR Y e me/\Ev fun n=>zji ms.rnd (zdB P (jU P hk (jO P hk n)) ops ms.rnd l ms.env ms.h ms.dl)=some (me,ms')
theorem zpW{X:Gst}{ops:Array Oper}{env:List SV}{me:Arr AV}{j t:Nat}{b:Bool}(he:RVs X env me.toL)(h:zA5 ops env j=some (t,b)):yl ops me j=some b/\sset env t (.a (.bool b))=env:=by
 unfold zA5 at h
 split at h
 ·rename_i o ho
  split at h
  ·rename_i t' ht
   split at h
   ·rename_i b' hb
    cases h
    rw[zeb] at hb
    rw[zox]
    obtain⟨x,h1,h2⟩:=he.get hb
    cases(show x=_ from h2)
    have h1:me[t]?=some (.bool b):=Arr.jT.symm.trans h1
    exact⟨by simp only[yl,ho,ht,h1,isB],wK hb⟩
   ·cases h
  ·cases h
 ·cases h
theorem zrv{o:Option SV}(h:zlY o=true):∃ l,o=some (.tup l):=by
 unfold zlY at h
 split at h
 ·exact⟨_,rfl⟩
 ·cases h
theorem znF{X:Gst}{ops:Array Oper}{env:List SV}{me:Arr AV}{j:Nat}(he:RVs X env me.toL)(h:zpV ops.toList env j=true):yl ops me j=none:=by
 unfold zpV at h
 split at h
 ·rename_i o ho
  split at h
  ·rename_i t ht
   obtain⟨l,hl⟩:=zrv h
   rw[zeb] at hl
   obtain⟨x,h1,h2⟩:=he.get hl
   obtain⟨l',rfl,_⟩:=h2
   have h1:me[t]?=some (.tup l'):=Arr.jT.symm.trans h1
   have ho:ops[j]?=some o:=by rw[<- vz];exact ho
   simp only[yl,ho,ht,h1,isB]
  ·cases h
 ·cases h
theorem zfb:∀ {h0 h:SH} {i:Nat} {b':SB},(xD h0 h)[i]?=some b'->∃ b,h[i]?=some b/\(b=.gone->b'=.gone)
 | [],[],i,b',h=>by simp [xD] at h
 |_::_,[],i,b',h=>by simp [xD] at h
 | [],b::h,0,b',e=>by
  simp only[xD,yK,yx] at e
  exact⟨b,rfl,fun q=>by subst q;subst e;rfl⟩
 | [],b::h,i+1,b',e=>by
  simp only[xD,yL] at e
  obtain⟨b2,q1,q2⟩:=zfb (h:=h) e
  exact⟨b2,by simpa using q1,q2⟩
 |b0::h0,b::h,0,b',e=>by
  simp only[xD,yK,yx] at e
  exact⟨b,rfl,fun q=>by subst q;subst e;split<;>rfl⟩
 |b0::h0,b::h,i+1,b',e=>by
  simp only[xD,yL] at e
  obtain⟨b2,q1,q2⟩:=zfb (h:=h) e
  exact⟨b2,by simpa using q1,q2⟩
theorem Dk.same{k:Nat×Option Nat}{X:Gst}{h:zg}{sh:SH}{dl:List Dfd}{rnd:Option Nat}(q:Dk k X dl rnd)(hh:h=X.h)(hz:∀ (i:Nat) (b':SB),sh[i]?=some b'->∃ b,X.sh[i]?=some b/\(b=.gone->b'=.gone)):Dk k ⟨h,X.Φ,X.σ,sh⟩ dl rnd:=by
 subst hh
 have kp:∀ {m},Kp X m->Kp ⟨X.h,X.Φ,X.σ,sh⟩ m:=fun p=>⟨p.lt,p.phi,fun i v b hb ho=>let⟨b0,h1,h2⟩:=hz i b hb;h2 (p.gone i v b0 h1 ho)⟩
 exact⟨q.base,q.nd,fun d hd=>let⟨m,h1,h2,h3,h4,h5⟩:=q.dl d hd;⟨m,h1,h2,h3,kp h4,h5⟩,q.rnd,fun m hm=>let⟨h1,h2⟩:=q.lo m hm;⟨h1,kp h2⟩⟩
theorem Kp.other{X:Gst}{m m':Nat}{k:Blk}(h:Kp X m):Kp ⟨X.h.set m' k,X.Φ,X.σ,X.sh⟩ m:=⟨by show m<(X.h.set m' k).length;rw[Arr.length_set];exact h.lt,h.phi,h.gone⟩
theorem ze1{X:Gst}(hΦ:∀ m,X.Φ m->m<X.h.length):∀ {dl:List Dfd} {Y:Gst},(∀ d ∈ dl,∃ m,d=.mark m/\X.h.length<=m/\Y.h[m]?=some .dfr/\Kp Y m)->dl.Nodup->Stp X Y ->
  ∃ h',(∀ dcall l pn,mleave dcall (dl++l) Y.h pn=mleave dcall l h' pn)/\Stp X ⟨h',Y.Φ,Y.σ,Y.sh⟩/\Y.le ⟨h',Y.Φ,Y.σ,Y.sh⟩
 | [],Y,_,_,S=>⟨Y.h,fun _ _ _=>rfl,S,Gst.le_refl S.hr.len⟩
 |d::dl,Y,h,hn,S=>by
  obtain⟨m,rfl,h1,h2,h3⟩:=h d yF
  obtain⟨hn1,hn2⟩:=List.nodup_cons.1 hn
  obtain⟨S1,l1⟩:=S.zCC h1 h3 .gone hΦ
  obtain⟨h',q1,q2,q3⟩:=ze1 hΦ (dl:=dl) (Y:=⟨Y.h.set m .gone,Y.Φ,Y.σ,Y.sh⟩) (fun d hd=>by
   obtain⟨m',rfl,k1,k2,k3⟩:=h d (yB _ hd)
   have hne:m'≠m:=fun e=>hn1 (e ▸ hd)
   exact⟨m',rfl,k1,by show(Y.h.set m .gone)[m']?=_;rw[Arr.zY (Ne.symm hne)];exact k2,k3.other⟩) hn2 S1
  exact⟨h',fun dcall l pn=>by simp only[vd,mleave,h2];exact q1 dcall l pn,q2,Gst.le_trans l1 q3⟩
theorem Stp.congr{X Y:Gst}{h:zg}(hh:∀ m:Nat,h[m]?=X.h[m]?)(hl:h.length=X.h.length)(S:Stp ⟨h,X.Φ,X.σ,X.sh⟩ Y):Stp X Y:=
 ⟨⟨fun m q=>(S.le.h m q).trans (hh m),S.le.Φ,S.le.len,S.le.at_,S.le.seq,S.le.shl⟩,S.hr,⟨hl ▸ S.fm.len,fun m q k=>(S.fm.h m (show m<h.length by omega) k).trans (hh m),S.fm.md,fun i m v q k=>S.fm.new i m v q (show m<h.length by omega),S.fm.gone,fun m q k=>S.fm.phi m (show m<h.length by omega) k⟩⟩
theorem zoX{X:Gst}:∀ {ps:List Tmp} {args:List SV} {margs:List AV} {env:List SV} {me:Arr AV},RVs X env me.toL->RVs X args margs->RVs X ((ps.zip args).foldl (fun e p=>e.set p.1 p.2) env) ((ps.zip margs).foldl (fun e p=>e.set p.1 p.2) me).toL
 | [],_,_,_,_,h,_=>h
 |_::_,[],_,_,_,h,q=>by cases(show _=[] from q);exact h
 |p::ps,a::args,_,env,me,h,⟨x,xs,e,q1,q2⟩=>by
  subst e
  have:(me.set p x).toL=me.toL.set p x:=by
   refine yN fun j=>?_
   rw[Arr.jT,Arr.qk,vJ,Arr.jT,Arr.xd]
  exact zoX (ps:=ps) (env:=env.set p a) (me:=me.set p x) (by rw[this];exact h.set p q1) q2
theorem zoA{n:Nat}{pa pb:Pl}{asg body:Code}(hA:zkd P gl hk asg fun R st K=>zap P gl ct (R:=R) n pa asg st K)(hB:zkd P gl hk body fun R st K=>zap P gl ct (R:=R) n pb body st K)
  {k:Nat×Option Nat} {X:Gst} {st:SS} {ms:St} (hs:StR k X st ms) (hr:RH X) (hg:RGl P gl X) {loc m id:Nat} {env args:List SV} {margs:List AV} {ps:Array Tmp} (hbk:st.h[loc]?=some (.loop env id 0)) (hcd:kF.at_ id=some (ps,asg,body)) (hsz:args.length=ps.size)
  (hat:X.at loc m) (hargs:RVs X args margs) {R:Type} {r:R} {dst:Option Nat} (κ:List SV->SH->Option R)
  (h:zap P gl ct n pa asg ⟨(ps.toList.zip args).foldl (fun e p=>e.set p.1 p.2) env,st.h.set loc .gone⟩ (fun e st1=>match e with
   |.normal=>zap P gl ct n pb body st1 fun e st2=>match e with
    |.normal=>match zaD st.env dst (.a (.bool true)) with
     |some env1=>κ env1 (st2.h.set loc (.loop env id 0))
     |none=>none
    |_=>none
   |_=>none)=some r):
  ∃ (Y:Gst) (sh':SH) (h':zg) (env1:List SV),Stp X Y/\Y.sh=sh'/\Y.h=h'/\RV Y (.a (.bool true)) (.bool true)/\zaD st.env dst (.a (.bool true))=some env1/\κ env1 sh'=some r/\Ev fun f=>jU P hk (jO P hk f) (.y m) margs ms.h=some (.ret (.bool true) h'):=by
 have hb:X.sh[loc]?=some (.loop env id 0):=by rw[hs.sh];exact hbk
 obtain⟨v,hσ⟩:=hat
 obtain⟨m',env',ps',asg',body',e,hc',hrow,henv⟩:=hr.blk _ _ _ hb hσ
 cases e
 rw[hcd] at hc';cases hc'
 have hi:=(ya.1 hb).1
 have hm:=hr.lt _ _ _ hσ
 have hΦX:¬ X.Φ m:=fun q=>(hr.own loc m 0 _ hb hσ q).elim (fun e=>by cases e) (fun e=>by cases e)
 have S0:=Stp.zCc hr hb (by simp) rfl
 have K1:Kp ⟨X.h,X.Φ,X.σ,X.sh.set loc .gone⟩ m:=⟨hm,hΦX,fun i v' b' hb' ho=>by
  have e:=hr.inj _ _ _ _ _ ho hσ
  subst e
  have hb':(X.sh.set i .gone)[i]?=some b':=hb'
  rw[ve hi] at hb';cases hb';rfl⟩
 obtain⟨e1,st1,Y1,me1,ms1,h1,S1,hs1,he1,ev1⟩:=hA (X.h.length,some m) R _ _ r ⟨X.h,X.Φ,X.σ,X.sh.set loc .gone⟩ ⟨(ps.toList.zip margs).foldl (fun e p=>e.set p.1 p.2) env',X.h,[],some m⟩ h
  ⟨(zoX henv hargs).le S0.le,by rw[<- hs.sh],rfl,yd _,vM,fun _ h=>(nomatch h),rfl,fun m' e=>by cases e;exact⟨⟨_,_,_,_,_,_,hrow⟩,K1⟩⟩ S0.hr (hg.le S0.le)
 cases e1<;>first|(cases h1;done)|skip
 cases me1<;>first|(cases he1;done)|skip
 obtain⟨K2,r1⟩:=K1.step S0.hr.len S1
 have r1:Y1.h[m]?=some (.loop env' ps asg body .ready none):=r1.trans hrow
 generalize hbz:(Blk.loop env' ps asg body .busy none)=bz at *
 have S1b:=S1.swap S0.hr K1 bz
 have hxlt:m<Y1.h.length:=K2.lt
 have lb:Y1.le ⟨Y1.h.set m bz,Y1.Φ,Y1.σ,Y1.sh⟩:=⟨fun m' hm'=>Arr.zY fun e=>K2.phi (e ▸ hm'),fun _ h=>h,yd _,fun _ _ v h=>⟨v,h⟩,fun _ _ l k md _ h=>⟨l,k,md,h,yd _,fun _=>⟨rfl,rfl⟩⟩,S1.hr.len⟩
 have gb:(Y1.h.set m bz)[m]?=some bz:=Arr.qu hxlt
 simp only at h1
 obtain⟨e2,st2,Y2,me2,ms2,h2,S2,hs2,he2,ev2⟩:=hB (X.h.length,some m) R _ _ r ⟨Y1.h.set m bz,Y1.Φ,Y1.σ,Y1.sh⟩ ⟨ms1.env,ms1.h.set m bz,ms1.dl,some m⟩ h1
  ⟨hs1.env.le lb,hs1.sh,by rw[<- hs1.h],by show X.h.length<=(Y1.h.set m bz).length;rw[Arr.length_set];exact hs1.dk.base,hs1.dk.nd,fun d hd=>by
   obtain⟨m',rfl,q1,q2,q3,q5⟩:=hs1.dk.dl d hd
   have hne:m'≠m:=fun e=>by rw[e,r1] at q2;cases q2
   exact⟨m',rfl,q1,by show(Y1.h.set m bz)[m']?=_;rw[Arr.zY (Ne.symm hne)];exact q2,q3.other,q5⟩,rfl,fun m' e=>by cases e;exact⟨⟨env',ps,asg,body,.busy,none,by rw[hbz];exact gb⟩,K2.other⟩⟩ S1b.hr ((hg.le S0.le).le S1.le |>.le lb)
 cases e2<;>first|(cases h2;done)|skip
 cases me2<;>first|(cases he2;done)|skip
 obtain⟨K3,r2⟩:=(show Kp ⟨Y1.h.set m bz,Y1.Φ,Y1.σ,Y1.sh⟩ m from K2.other).step S1b.hr.len S2
 have r2:Y2.h[m]?=some bz:=r2.trans gb
 generalize hrd:(Blk.loop env' ps asg body .ready none)=rd at *
 have S3:=(S1b.trans S2).swap (S0.hr.swap K1 bz) K1.other rd
 have S4:Stp ⟨X.h,X.Φ,X.σ,X.sh.set loc .gone⟩ ⟨Y2.h.set m rd,Y2.Φ,Y2.σ,Y2.sh⟩:=by
  refine Stp.congr (h:=(X.h.set m bz).set m rd) (fun m'=>?_) (by rw[Arr.length_set,Arr.length_set]) S3
  by_cases e:m'=m
  ·subst e;rw[Arr.qu (by rw[Arr.length_set];exact hm)];exact hrow.symm
  ·rw[Arr.zY (Ne.symm e),Arr.zY (Ne.symm e)]
 have S5:=Stp.again hr hb hσ (by simp) rfl (fun _ _ _ _ e=>by cases e) S4 fun hle=>⟨m,env',ps,asg,body,rfl,hcd,by rw[hrd];exact Arr.qu K3.lt,henv.le hle⟩
 simp only at h2
 split at h2
 ·rename_i env1 hset
  refine⟨_,_,_,env1,S5,rfl,rfl,rfl,hset,by rw[hs2.sh];exact h2,(ev1.and ev2).mono fun f ⟨p,q⟩=>?_⟩
  rw[<- hs.h]
  simp only[jU,zpd,hrow,<- hrd]
  rw[if_pos (by rw[hargs.length];exact hsz),p]
  have e3:ms1.rnd=some m:=hs1.dk.rnd
  simp only[zw2,<- hs1.h,r1,<- hrd]
  rw[hbz,hs1.h,q]
  simp only[ziy,<- hs2.h,r2,<- hbz]
 ·cases h2
theorem zcB(hct:zm9 P gl ct hk):∀ n,
  (∀ pl c,xx P gl hk pl c->zkd P gl hk c fun R st K=>zap P gl ct (R:=R) n pl c st K) /\
  (∀ pl id ops i l,xx P gl hk pl (.region id ops false)->zCb P gl hk ops l fun R st K=>zlt P gl ct (R:=R) n pl ops i l st K) /\
  (∀ pl f,(∀ fn b,P.funcs[f]?=some fn->fn.body=some b->xx P gl hk pl b)->zhI P gl hk f fun R args h κ=>zao P gl ct (R:=R) n pl f args h κ) /\
  (∀ pl id ops l env0 X0 hs,xx P gl hk pl (.region id ops true)->zfA (infos l [])=true->xO P l=some hs->zx4 P gl ct hk l env0 X0 hs n pl):=by
 intro n
 induction n with
 |zero=>
  refine⟨fun pl c _=>?_,fun pl id ops i l _=>?_,fun pl f _=>?_,fun pl id ops l env0 X0 hs _ _ _=>zuN⟩
  ·intro k R st K r X ms h;simp [zap] at h
  ·intro k R st K r X ms h;simp [zlt] at h
  ·intro R args κ r X ms h;simp [zao] at h
 |succ n ih=>
  obtain⟨ihC,ihO,ihF,ihD⟩:=ih
  refine⟨?_,?_,?_,fun pl id ops l env0 X0 hs hpl h1 h2=>zuM h1 h2 (fun i f=>ihF (pl.at i f) f fun fn b hf hb=>xx.at_ hf hb hpl) (ihD pl id ops l env0 X0 hs hpl h1 h2)⟩
  ·
   intro pl c hpl k R st K r X ms h hs hr hg
   have hg':=hg
   unfold zap at h
   cases c with
   |skip=>exact⟨.normal,st,X,.normal,ms,h,.refl hr,hs,trivial,Ev.succ (Ev.all fun n=>rfl)⟩
   |label=>exact⟨.normal,st,X,.normal,ms,h,.refl hr,hs,trivial,Ev.succ (Ev.all fun n=>rfl)⟩
   |ret=>exact⟨.ret,st,X,.ret,ms,h,.refl hr,hs,trivial,Ev.succ (Ev.all fun n=>rfl)⟩
   |exit id=>exact⟨.exit id,st,X,.exit id,ms,h,.refl hr,hs,rfl,Ev.succ (Ev.all fun n=>rfl)⟩
   |seq a b=>
    simp only at h
    obtain⟨e,st1,Y,me,ms1,h1,S1,hs1,he1,ev1⟩:=ihC _ _ hpl.l2.1 k R st _ r X ms h hs hr hg
    cases e with
    |normal=>
     cases me<;>first|cases he1|skip
     obtain⟨e2,st2,Z,me2,ms2,h2,S2,hs2,he2,ev2⟩:=ihC _ _ hpl.l2.2 k R st1 _ r Y ms1 h1 hs1 S1.hr (hg.le S1.le)
     exact⟨e2,st2,Z,me2,ms2,h2,S1.trans S2,hs2,he2,Ev.succ ((ev1.and ev2).mono fun n ⟨p,q⟩=>by simp only[jO,qB,p,q])⟩
    |ret=>
     cases me<;>first|cases he1|skip
     exact⟨.ret,st1,Y,.ret,ms1,h1,S1,hs1,trivial,Ev.succ (ev1.mono fun n p=>by simp only[jO,qB,p])⟩
    |exit id=>
     cases me<;>first|cases he1|skip
     exact⟨.exit id,st1,Y,.exit id,ms1,h1,S1,hs1,rfl,Ev.succ (ev1.mono fun n p=>by simp only[jO,qB,p])⟩
    |panic v=>
     cases me<;>first|cases he1|skip
     exact⟨.panic v,st1,Y,.panic _,ms1,h1,S1,hs1,he1,Ev.succ (ev1.mono fun n p=>by simp only[jO,qB,p])⟩
   |cond c a b=>
    simp only at h
    split at h
    ·rename_i t ht
     obtain⟨x,h1,h2⟩:=zgc hs.env hg ht
     cases(show x=_ from h2)
     rw[hs.h] at h1
     cases t with
     |true=>
      obtain⟨e2,st2,Z,me2,ms2,h2,S2,hs2,he2,ev2⟩:=ihC _ _ hpl.c2.1 k R st _ r X ms h hs hr hg
      exact⟨e2,st2,Z,me2,ms2,h2,S2,hs2,he2,Ev.succ (ev2.mono fun n q=>by simp only[jO,qB,h1,q])⟩
     |false=>
      obtain⟨e2,st2,Z,me2,ms2,h2,S2,hs2,he2,ev2⟩:=ihC _ _ hpl.c2.2 k R st _ r X ms h hs hr hg
      exact⟨e2,st2,Z,me2,ms2,h2,S2,hs2,he2,Ev.succ (ev2.mono fun n q=>by simp only[jO,qB,h1,q])⟩
    ·cases h
   |block id a=>
    simp only at h
    obtain⟨e,st1,Y,me,ms1,h1,S1,hs1,he1,ev1⟩:=ihC _ _ hpl.b1 k R st _ r X ms h hs hr hg
    cases e with
    |normal=>
     cases me<;>first|cases he1|skip
     exact⟨.normal,st1,Y,.normal,ms1,h1,S1,hs1,trivial,Ev.succ (ev1.mono fun n p=>by simp only[jO,qB,p])⟩
    |ret=>
     cases me<;>first|cases he1|skip
     exact⟨.ret,st1,Y,.ret,ms1,h1,S1,hs1,trivial,Ev.succ (ev1.mono fun n p=>by simp only[jO,qB,p])⟩
    |exit i=>
     cases me<;>first|cases he1|skip
     simp only at h1
     split at h1
     ·rename_i hi
      have hi:=zj hi
      subst hi
      exact⟨.normal,st1,Y,.normal,ms1,h1,S1,hs1,trivial,Ev.succ (ev1.mono fun n p=>by simp only[jO,qB,p];rw[if_pos trivial])⟩
     ·rename_i hi
      have hi:¬ i=id:=fun e=>by rw[e,vg] at hi;cases hi
      exact⟨.exit i,st1,Y,.exit i,ms1,h1,S1,hs1,rfl,Ev.succ (ev1.mono fun n p=>by simp only[jO,qB,p];rw[if_neg hi])⟩
    |panic v=>
     cases me<;>first|cases he1|skip
     exact⟨.panic v,st1,Y,.panic _,ms1,h1,S1,hs1,he1,Ev.succ (ev1.mono fun n p=>by simp only[jO,qB,p])⟩
   |loop a=>
    simp only at h
    split at h
    ·rename_i g
     exact hpl k R st K r X ms h hs hr hg
    ·rename_i hby
     have hpl':=hpl.f1 hby
     obtain⟨e,st1,Y,me,ms1,h1,S1,hs1,he1,ev1⟩:=ihC _ _ hpl'.1 k R st _ r X ms h hs hr hg
     cases e with
     |normal=>
      cases me<;>first|cases he1|skip
      obtain⟨e2,st2,Z,me2,ms2,h2,S2,hs2,he2,ev2⟩:=ihC _ _ hpl'.2 k R st1 _ r Y ms1 h1 hs1 S1.hr (hg.le S1.le)
      exact⟨e2,st2,Z,me2,ms2,h2,S1.trans S2,hs2,he2,Ev.succ ((ev1.and ev2).mono fun n ⟨p,q⟩=>by simp only[jO,qB,p,q])⟩
     |ret=>
      cases me<;>first|cases he1|skip
      exact⟨.ret,st1,Y,.ret,ms1,h1,S1,hs1,trivial,Ev.succ (ev1.mono fun n p=>by simp only[jO,qB,p])⟩
     |exit id=>
      cases me<;>first|cases he1|skip
      exact⟨.exit id,st1,Y,.exit id,ms1,h1,S1,hs1,rfl,Ev.succ (ev1.mono fun n p=>by simp only[jO,qB,p])⟩
     |panic v=>
      cases me<;>first|cases he1|skip
      exact⟨.panic v,st1,Y,.panic _,ms1,h1,S1,hs1,he1,Ev.succ (ev1.mono fun n p=>by simp only[jO,qB,p])⟩
   |region id ops drawn=>
    cases drawn with
    |true=>
     simp only at h
     split at h
     ·exact hpl k R st K r X ms h hs hr hg
     split at h
     ·rename_i hs' hb hhs
      simp only[yc] at hb
      obtain⟨st',Y,ms',h1,S1,hs1,ev1⟩:=zmG (by simp only[yc];exact hb.1) hb.2 hhs (ihD pl id ops ops.toList ms.env X hs' hpl hb.1.2 hhs) h hs hr hg
      obtain⟨S2,hle⟩:=zxl S1
      refine⟨.normal,⟨st'.env,xD st.h st'.h⟩,_,.normal,ms',h1,S2,⟨hs1.env.le hle,by rw[hs.sh,hs1.sh],hs1.h,hs1.dk.same rfl fun i b hb=>by
       obtain⟨b0,q1,q2⟩:=zfb (h0:=X.sh) hb
       exact⟨b0,q1,q2⟩⟩,trivial,Ev.succ (ev1.mono fun n p=>?_)⟩
      simp only[jO,qB]
      exact p
     ·cases h
    |false=>
     obtain⟨e,st1,Y,me,ms1,h1,S1,hs1,he1,ev1⟩:=ihO pl id ops 0 ops.toList hpl k R st K r X ms h hs hr hg
     exact⟨e,st1,Y,me,ms1,h1,S1,hs1,he1,Ev.succ (ev1.mono fun n p=>by simp only[jO,qB];exact p)⟩
   |rangeFunc f ps a b=>
    simp only at h
    split at h
    ·exact hpl k R st K r X ms h hs hr hg
    ·cases h
   |_=>cases h
  ·
   intro pl id ops i l hpl k R st K r X ms h hs hr hg
   cases l with
   |nil=>
    simp only[zlt] at h
    exact⟨.normal,st,X,.normal,⟨ms.env,ms.h,ms.dl,ms.rnd⟩,h,.refl hr,⟨hs.env,hs.sh,hs.h,hs.dk⟩,trivial,Ev.all fun n=>rfl⟩
   |cons o l=>
    have hev:=EvR.of hs.env hg
    have next:∀ (v:SV) (x:AV) (sh':SH) (h':zg) (Y:Gst) (env':List SV),Stp X Y->Y.sh=sh'->Y.h=h'->RV Y v x->zaD st.env o.dst v=some env'->zlt P gl ct n pl ops (i+1) l ⟨env',sh'⟩ K=some r ->
      Ev (fun m=>zby P (jU P hk (jO P hk m)) o ms.env ms.h ms.dl ms.rnd=zjY h' ms.dl (zjp ms.env o.dst x))->want ops o ms.env=true ->
      ∃ e st' Y me ms',K e st'=some r/\Stp X Y/\StR k Y st' ms'/\ExR Y e me/\Ev fun n=>zji ms.rnd (zdB P (jU P hk (jO P hk n)) ops ms.rnd (o::l) ms.env ms.h ms.dl)=some (me,ms'):=by
     intro v x sh' h' Y env' S1 hsh hh hv hset hrun hev1 hw
     obtain⟨me',h1,h2⟩:=zcZ (hs.env.le S1.le) hv hset
     obtain⟨e,st2,Z,me2,ms2,h3,S2,hs2,he2,ev2⟩:=ihO pl id ops (i+1) l hpl k R ⟨env',sh'⟩ K r Y ⟨me',h',ms.dl,ms.rnd⟩ hrun ⟨h2,hsh,hh,hs.dk.step hr S1⟩ S1.hr (hg.le S1.le)
     refine⟨e,st2,Z,me2,ms2,h3,S1.trans S2,hs2,he2,(hev1.and ev2).mono fun m ⟨p,q⟩=>?_⟩
     rw[h1] at p
     simp only[zdB,hw,p,zjY]
     exact q
    have off:want ops o ms.env=false->(match zaD st.env o.dst (.tup []) with|some env=>zlt P gl ct n pl ops (i+1) l ⟨env,st.h⟩ K|none=>none)=some r ->
      ∃ e st' Y me ms',K e st'=some r/\Stp X Y/\StR k Y st' ms'/\ExR Y e me/\Ev fun n=>zji ms.rnd (zdB P (jU P hk (jO P hk n)) ops ms.rnd (o::l) ms.env ms.h ms.dl)=some (me,ms'):=by
     intro hw h
     split at h
     ·rename_i env' hset
      obtain⟨me',h1,h2⟩:=zcZ hs.env (show RV X (.tup []) (.tup []) from⟨[],rfl,rfl⟩) hset
      obtain⟨e,st2,Z,me2,ms2,h3,S2,hs2,he2,ev2⟩:=ihO pl id ops (i+1) l hpl k R ⟨env',st.h⟩ K r X ⟨me',ms.h,ms.dl,ms.rnd⟩ h ⟨h2,hs.sh,hs.h,hs.dk⟩ hr hg
      refine⟨e,st2,Z,me2,ms2,h3,S2,hs2,he2,ev2.mono fun m q=>?_⟩
      simp only[zdB,hw,h1]
      exact q
     ·cases h
    have go:want ops o ms.env=true->(match ze9 o.op with
      |some x=>match sev gl st.env x with
       |some (.ifc t v)=>K (.panic (.ifc t v)) st
       |_=>none
      |none=>alts (fun r=>match r with
       |.val v h=>match zaD st.env o.dst v with
        |some env=>zlt P gl ct n pl ops (i+1) l ⟨env,h⟩ K
        |none=>none
       |.unit h=>match zaD st.env o.dst (.tup []) with
        |some env=>zlt P gl ct n pl ops (i+1) l ⟨env,h⟩ K
        |none=>none
       |.dfr f args cap=>none
       |.call (.inl f) args=>zao P gl ct n (pl.at i f) f args st.h fun r=>match r with
        |.ret v h=>match zaD st.env o.dst v with
         |some env=>zlt P gl ct n pl ops (i+1) l ⟨env,h⟩ K
         |none=>none
        |.pan v h=>K (.panic v) ⟨st.env,h⟩
       |.call (.inr loc) args=>match st.h[loc]? with
        |some (.loop env id 0)=>match kF.at_ id with
         |some (ps,asg,body)=>match ye args.length ps.size with
          |true=>zap P gl ct n (pl.y i id).1 asg ⟨(ps.toList.zip args).foldl (fun e p=>e.set p.1 p.2) env,st.h.set loc .gone⟩ fun e st1=>match e with
           |.normal=>zap P gl ct n (pl.y i id).2 body st1 fun e st2=>match e with
            |.normal=>match zaD st.env o.dst (.a (.bool true)) with
             |some env1=>zlt P gl ct n pl ops (i+1) l ⟨env1,st2.h.set loc (.loop env id 0)⟩ K
             |none=>none
            |_=>none
           |_=>none
          |false=>none
         |none=>none
        |_=>none) (sop P gl (sev gl st.env) st.h o.op))=some r ->
      ∃ e st' Y me ms',K e st'=some r/\Stp X Y/\StR k Y st' ms'/\ExR Y e me/\Ev fun n=>zji ms.rnd (zdB P (jU P hk (jO P hk n)) ops ms.rnd (o::l) ms.env ms.h ms.dl)=some (me,ms'):=by
     intro hw h
     split at h
     ·rename_i x hx
      split at h
      ·rename_i t v hv
       obtain⟨y,h1,v',rfl,h2⟩:=hev _ _ hv
       rw[hs.h] at h1
       refine⟨_,st,X,.panic (.ifc t v'),⟨ms.env,ms.h,ms.dl,ms.rnd⟩,h,.refl hr,⟨hs.env,hs.sh,hs.h,hs.dk⟩,⟨v',rfl,h2⟩,Ev.all fun m=>?_⟩
       simp only[zdB,hw,zby,hx,h1,zji]
      ·cases h
     ·rename_i hx
      obtain⟨q,hq,h⟩:=zke h
      rw[<- hs.sh] at hq
      obtain⟨rs,hm,hrs⟩:=zgd hr hg hev hq
      rw[hs.h] at hm
      cases q with
      |val v sh'=>
       simp only at h
       split at h
       ·rename_i env' hset
        cases rs with
        |val x h'=>
         obtain⟨Y,S1,hsh,hh,hv⟩:=hrs
         exact next v x sh' h' Y env' S1 hsh hh hv hset h (Ev.all fun m=>by simp only[zby,hx,hm,zcS]) hw
        |_=>cases hrs
       ·cases h
      |unit sh'=>
       simp only at h
       split at h
       ·rename_i env' hset
        cases rs with
        |unit h'=>
         obtain⟨Y,S1,hsh,hh⟩:=hrs
         exact next (.tup []) (.tup []) sh' h' Y env' S1 hsh hh ⟨[],rfl,rfl⟩ hset h (Ev.all fun m=>by simp only[zby,hx,hm,zcS]) hw
        |_=>cases hrs
       ·cases h
      |dfr f a c=>cases h
      |call c args=>
       cases c with
       |inr loc=>
        cases rs with
        |call c' margs=>
         cases c' with
         |f _=>cases hrs
         |y m=>
          obtain⟨hat,hargs⟩:=hrs
          simp only at h
          split at h
          ·rename_i env lid hbk
           split at h
           ·rename_i ps asg body hcd
            split at h
            ·rename_i hsz
             have hsz:=zj hsz
             obtain⟨Y,sh',h'',env1,S1,hsh,hh,hv,hset,hrun,hev⟩:=zoA (n:=n) (dst:=o.dst) (ihC _ _ (xx.y hcd hpl).1) (ihC _ _ (xx.y hcd hpl).2) hs hr hg hbk hcd hsz hat hargs (fun env1 sh=>zlt P gl ct n pl ops (i+1) l ⟨env1,sh⟩ K) h
             exact next (.a (.bool true)) (.bool true) sh' h'' Y env1 S1 hsh hh hv hset hrun (hev.mono fun m p=>by simp only[zby,hx,hm,zcS,p]) hw
            ·cases h
           ·cases h
          ·cases h
        |_=>cases hrs
       |inl f=>
        cases rs with
        |call c' margs=>
         cases c' with
         |y _=>cases hrs
         |f f'=>
          obtain⟨rfl,hargs⟩:=hrs
          simp only at h
          rw[<- hs.sh] at h
          obtain⟨q,Y,mq,h1,S1,hcr,ev1⟩:=ihF (pl.at i f) f (fun fn b hf hb=>xx.at_ hf hb hpl) R args _ r X margs h hargs hr hg
          rw[hs.h] at ev1
          cases q with
          |ret v sh'=>
           cases mq with
           |pan=>cases hcr
           |ret x h'=>
            obtain⟨hsh,hh,hv⟩:=hcr
            simp only at h1
            split at h1
            ·rename_i env' hset
             exact next v x sh' h' Y env' S1 hsh hh hv hset h1 (ev1.mono fun m p=>by simp only[zby,hx,hm,zcS,p]) hw
            ·cases h1
          |pan v sh'=>
           cases mq with
           |ret=>cases hcr
           |pan x h'=>
            obtain⟨hsh,hh,hv⟩:=hcr
            refine⟨_,_,Y,.panic x,⟨ms.env,h',ms.dl,ms.rnd⟩,h1,S1,⟨hs.env.le S1.le,hsh,hh,hs.dk.step hr S1⟩,hv,ev1.mono fun m p=>?_⟩
            simp only[zdB,hw,zby,hx,hm,zcS,p,zji]
        |_=>cases hrs
    simp only[zlt] at h
    split at h
    ·rename_i hgd
     exact go (by simp only[want,hgd]) h
    ·rename_i j w hgd
     split at h
     ·rename_i t b hgv
      obtain⟨h1,h2⟩:=zpW hs.env hgv
      have hst:∀ (e:List SV),e=st.env->(⟨e,st.h⟩:SS)=st:=fun e he=>by rw[he]
      cases b with
      |true=>
       simp only[cond_true,h2] at h
       cases w with
       |true=>exact go (by simp only[want,hgd,h1];rfl) h
       |false=>exact off (by simp only[want,hgd,h1];rfl) h
      |false=>
       simp only[cond_false,h2] at h
       cases w with
       |true=>exact off (by simp only[want,hgd,h1];rfl) h
       |false=>exact go (by simp only[want,hgd,h1];rfl) h
     ·split at h
      ·rename_i hsk
       exact off (by simp only[want,hgd,znF hs.env hsk];rfl) h
      ·cases h
  ·
   intro pl f hpl R args κ r X margs h hargs hr hg
   simp only[zao] at h
   split at h
   ·rename_i g hcf
    exact hct.calls f g hcf R args κ r X margs h hargs hr hg
   ·rename_i hcf
    split at h
    ·rename_i fn hf
     split at h
     ·rename_i c hb
      split at h
      ·rename_i hle
       have hle:=yk hle
       have hhk:hk f=none:=by
        cases hq:hk f with
        |none=>rfl
        |some g=>have:=hct.zyU f g hq hcf;rw[hf] at this;simp [hb] at this
       have hl:=hargs.length
       have henv:RVs X (args++yD (fn.ntmps-args.length) (.tup [])) (Arr.of (margs++yD (fn.ntmps-margs.length) AV.undef)).toL:=by
        rw[Arr.zpB,hl]
        refine hargs.append ?_
        generalize fn.ntmps-args.length=k
        induction k with
        |zero=>rfl
        |succ k ih=>exact⟨_,_,rfl,⟨[],rfl,rfl⟩,ih⟩
       obtain⟨e,st1,Y,me,ms1,h1,S1,hs1,he1,ev1⟩:=ihC pl c (hpl fn c hf hb) (X.h.length,none) R _ _ r X ⟨Arr.of (margs++yD (fn.ntmps-margs.length) AV.undef),X.h,[],none⟩ h ⟨henv,rfl,rfl,Dk.none⟩ hr hg
       have hm:∀ m,jU P hk (jO P hk m) (.f f) margs X.h=match jO P hk m c ⟨Arr.of (margs++yD (fn.ntmps-margs.length) AV.undef),X.h,[],none⟩ with
         |some (.normal,st)=>zna P fn st.env (mleave (zb4 P (jO P hk m)) st.dl st.h .no)
         |some (.ret,st)=>zna P fn st.env (mleave (zb4 P (jO P hk m)) st.dl st.h .no)
         |some (.panic v,st)=>zna P fn st.env (mleave (zb4 P (jO P hk m)) st.dl st.h (.up v))
         |_=>none:=by
        intro m
        simp only[jU,hhk,zfQ,hf,mstart,hb]
        rw[if_pos (by rw[hl];exact hle)]
        cases jO P hk m c ⟨Arr.of (margs++yD (fn.ntmps-margs.length) AV.undef),X.h,[],none⟩ with
        |none=>rfl
        |some p=>obtain⟨e0,st0⟩:=p;cases e0<;>rfl
       have fin:∀ (me0:Ex),(me0=.normal\/me0=.ret)->me=me0->(match ztK P gl st1.env st1.h fn.results.toList with|some vs=>κ (.ret (zpi vs) st1.h)|none=>none)=some r ->
         ∃ q Y mq,κ q=some r/\Stp X Y/\CRR Y q mq/\Ev fun n=>jU P hk (jO P hk n) (.f f) margs X.h=some mq:=by
        intro me0 hme0 hme h1
        subst hme
        split at h1
        ·rename_i vs hvs
         obtain⟨h',hlv,S2,hle2⟩:=ze1 hr.Φlt (fun d hd=>let⟨m,q1,q2,q3,q4,_⟩:=hs1.dk.dl d hd;⟨m,q1,q2,q3,q4⟩) hs1.dk.nd S1
         rw[<- hs1.sh] at hvs
         obtain⟨xs,h2,h3⟩:=zgP (X:=⟨h',Y.Φ,Y.σ,Y.sh⟩) S2.hr (hs1.env.le hle2) ((hg.le S1.le).le hle2) hvs
         refine⟨.ret (zpi vs) st1.h,⟨h',Y.Φ,Y.σ,Y.sh⟩,.ret (zsf xs) h',h1,S2,⟨hs1.sh,rfl,zjO h3⟩,ev1.mono fun m p=>?_⟩
         have e0:=hlv (zb4 P (jO P hk m)) [] .no
         rw[yz,hs1.h] at e0
         rw[hm,p]
         rcases hme0 with rfl|rfl<;>simp only[e0,mleave,zna,h2]
        ·cases h1
       cases e with
       |normal=>
        cases me<;>first|cases he1|skip
        exact fin .normal (.inl rfl) rfl h1
       |ret=>
        cases me<;>first|cases he1|skip
        exact fin .ret (.inr rfl) rfl h1
       |exit id=>cases h1
       |panic v=>
        cases me<;>first|cases he1|skip
        rename_i x
        obtain⟨h',hlv,S2,hle2⟩:=ze1 hr.Φlt (fun d hd=>let⟨m,q1,q2,q3,q4,_⟩:=hs1.dk.dl d hd;⟨m,q1,q2,q3,q4⟩) hs1.dk.nd S1
        refine⟨.pan v st1.h,⟨h',Y.Φ,Y.σ,Y.sh⟩,.pan x h',h1,S2,⟨hs1.sh,rfl,he1.le hle2⟩,ev1.mono fun m p=>?_⟩
        have e0:=hlv (zb4 P (jO P hk m)) [] (.up x)
        rw[yz,hs1.h] at e0
        rw[hm,p]
        simp only[e0,mleave,zna]
      ·cases h
     ·cases h
    ·cases h
end
end Go.Sx
namespace Go.Sx
open Go Go.Gx Go.Mx
variable [kF]
inductive Lf where
 |b (x:Bool)|i (x:Int)|c (x:UInt8)|s (x:List UInt8)|n (x:Nat)
 |l (u:U) (x:List (El u))|e (u:U) (x:El u)
inductive PV where
 |drop|bool|int (k:IntKind)|u8|str|cst (v:AV)
 |isl (u:U)|zi2 (u:U) (fo:Nat)|ptr (loc off lim:Nat)|zjA (g off lim:Nat)|gs (loc n:Nat)|zpK (loc n len:Nat)|sl (loc n:Nat) (c:Bool)|zks (loc n fo:Nat)|map (loc:Nat)
 |fn (f:FuncId) (a b:List PV)|ifc (t:TypeId) (p:PV)|agg (l:List PV)|tup (l:List PV)|yld (loc:Nat)
 deriving Inhabited
inductive PB where
 |cells (l:List PV) (md:Nat) (mk:Option TypeId:=none)|seq (u:U) (n md:Nat) (fx:Bool)|map (ks vs:List PV) (md:Nat)|kv (u v:U) (md:Nat)|loop (env:List PV) (id md:Nat)|gone
 deriving Inhabited
def zxQ(ph:List PB)(h:SH)(loc n k:Nat):Bool:=match ph[loc]?,h[loc]? with
 |some (.seq _ n' _ _),some (.seq _ _ m _)=>ye n' n&&ye m k
 |_,_=>false
mutual
def mV(ph:List PB)(h:SH):PV->SV->Option (List Lf)
 |.drop,_=>some []
 |.bool,.a (.bool b)=>some [.b b]
 |.int k,.a (.int k' n)=>if k=k' then some [.i n] else none
 |.u8,.u8 b=>some [.c b]
 |.str,.a (.str l)=>some [.s l]
 |.cst v,.a w=>match AV.beq v w with
  |true=>some []
  |false=>none
 |.isl u,.isl u' l=>match zbr u' u l with
  |some l=>some [.l u l]
  |none=>none
 |.zi2 u fo,.zi2 u' x fo'=>if q:u'=u then(match ye fo fo' with|true=>some [.e u (q ▸ x)]|false=>none) else none
 |.ptr loc off lim,.ptr loc' off' lim'=>match ye loc loc'&&ye off off'&&ye lim lim'&&yQ loc ph.length with
  |true=>some []
  |false=>none
 |.zjA g off lim,.zjA g' off' lim'=>match ye g g'&&ye off off'&&ye lim lim' with
  |true=>some []
  |false=>none
 |.gs loc n,.gs loc' k=>match ye loc loc'&&zxQ ph h loc n k with
  |true=>some []
  |false=>none
 |.zpK loc n len,.zpK loc' k len'=>match ye loc loc'&&zxQ ph h loc n k&&ye len len' with
  |true=>some []
  |false=>none
 |.sl loc n c,.sl loc' k off len c'=>match ye loc loc'&&zxQ ph h loc n k&&c==c' with
  |true=>some [.n off,.n len]
  |false=>none
 |.zks loc n fo,.zks loc' k i fo'=>match ye loc loc'&&zxQ ph h loc n k&&ye fo fo' with
  |true=>some [.n i]
  |false=>none
 |.map loc,.map loc'=>match ye loc loc'&&yQ loc ph.length with
  |true=>some []
  |false=>none
 |.yld loc,.yld loc'=>match ye loc loc'&&yQ loc ph.length with
  |true=>some []
  |false=>none
 |.fn f a b,.fn f' a' b'=>match ye f f',mVs ph h a a',mVs ph h b b' with
  |true,some x,some y=>some (x++y)
  |_,_,_=>none
 |.ifc t p,.ifc t' v=>match ye t t' with
  |true=>mV ph h p v
  |false=>none
 |.agg l,.agg l'=>mVs ph h l l'
 |.tup l,.tup l'=>mVs ph h l l'
 |_,_=>none
def mVs(ph:List PB)(h:SH):List PV->List SV->Option (List Lf)
 | [],[]=>some []
 |p::l,v::r=>match mV ph h p v,mVs ph h l r with
  |some x,some y=>some (x++y)
  |_,_=>none
 |_,_=>none
end
mutual
def iV:PV->List Lf->SV×List Lf
 |.bool,.b x::r=>(.a (.bool x),r)
 |.int k,.i x::r=>(.a (.int k x),r)
 |.u8,.c x::r=>(.u8 x,r)
 |.str,.s x::r=>(.a (.str x),r)
 |.cst v,r=>(.a v,r)
 |.isl u,.l u' x::r=>(.isl u' x,r)
 |.zi2 u fo,.e u' x::r=>(.zi2 u' x fo,r)
 |.ptr loc off lim,r=>(.ptr loc off lim,r)
 |.zjA loc off lim,r=>(.zjA loc off lim,r)
 |.gs loc n,r=>(.gs loc n,r)
 |.zpK loc n len,r=>(.zpK loc n len,r)
 |.sl loc n c,.n off::.n len::r=>(.sl loc n off len c,r)
 |.zks loc n fo,.n i::r=>(.zks loc n i fo,r)
 |.map loc,r=>(.map loc,r)
 |.yld loc,r=>(.yld loc,r)
 |.fn f a b,r=>(.fn f (iVs a r).1 (iVs b (iVs a r).2).1,(iVs b (iVs a r).2).2)
 |.ifc t p,r=>(.ifc t (iV p r).1,(iV p r).2)
 |.agg l,r=>(.agg (iVs l r).1,(iVs l r).2)
 |.tup l,r=>(.tup (iVs l r).1,(iVs l r).2)
 |_,r=>(.top,r)
def iVs:List PV->List Lf->List SV×List Lf
 | [],r=>([],r)
 |p::l,r=>((iV p r).1::(iVs l (iV p r).2).1,(iVs l (iV p r).2).2)
end
structure Mt(ph:List PB)(X Z:Gst):Prop where
 h:Z.h=X.h
 Φ:Z.Φ=X.Φ
 at_:∀ loc m,X.at loc m->loc<ph.length->Z.at loc m
 row:∀ (loc:Nat) (u:U) (n md:Nat) (fx:Bool) (u':U) (l:List (El u')) (k md':Nat),ph[loc]?=some (.seq u n md fx)->X.sh[loc]?=some (.seq u' l k md')->Z.sh[loc]?=some (.seq u' l n md')/\Z.σ[loc]?=X.σ[loc]?
theorem Mt.cur{ph:List PB}{X Z:Gst}(hM:Mt ph X Z){loc n k:Nat}(hr:zxQ ph X.sh loc n k=true){Q:(u:U)->Nat->Option (Nat×Nat)->Prop}(q:X.cur loc k Q):Z.cur loc n Q:=by
 unfold zxQ at hr
 split at hr
 ·rename_i u n' md fx u' l m md' hp hb
  simp only[yc] at hr
  have h1:=zj hr.1
  have h2:=zj hr.2
  subst h1;subst h2
  obtain⟨o,ho,hc⟩:=q
  obtain⟨h3,h4⟩:=hM.row loc u n' md fx u' l m md' hp hb
  refine⟨o,h4.trans ho,fun u2 l2 k2 md2 hb2=>?_⟩
  rw[h3] at hb2;cases hb2
  exact⟨yd _,fun _=>(hc _ _ _ _ hb).2 rfl⟩
 ·cases hr
mutual
theorem zo9{ph:List PB}{X Z:Gst}(hM:Mt ph X Z):∀ (p:PV) {v:SV} {ls:List Lf} {x:AV},mV ph X.sh p v=some ls->RV X v x->∀ r,∃ w,iV p (ls++r)=(w,r)/\RV Z w x
 |.drop,v,ls,x,h,hv,r=>by simp [mV] at h;subst h;exact⟨.top,rfl,trivial⟩
 |.bool,v,ls,x,h,hv,r=>by
  cases v<;>first|(simp [mV] at h;done)|skip
  rename_i w;cases w<;>first|(simp [mV] at h;done)|skip
  simp [mV] at h;subst h;exact⟨_,rfl,hv⟩
 |.int k,v,ls,x,h,hv,r=>by
  cases v<;>first|(simp [mV] at h;done)|skip
  rename_i w;cases w<;>first|(simp [mV] at h;done)|skip
  simp [mV] at h;obtain⟨rfl,rfl⟩:=h;exact⟨_,rfl,hv⟩
 |.u8,v,ls,x,h,hv,r=>by
  cases v<;>first|(simp [mV] at h;done)|skip
  simp [mV] at h;subst h;exact⟨_,rfl,hv⟩
 |.str,v,ls,x,h,hv,r=>by
  cases v<;>first|(simp [mV] at h;done)|skip
  rename_i w;cases w<;>first|(simp [mV] at h;done)|skip
  simp [mV] at h;subst h;exact⟨_,rfl,hv⟩
 |.cst c,v,ls,x,h,hv,r=>by
  cases v<;>first|(simp [mV] at h;done)|skip
  simp only[mV] at h
  split at h
  ·rename_i hb;cases h;exact⟨_,rfl,by rw[AV.beq_eq _ _ hb];exact hv⟩
  ·cases h
 |.isl u,v,ls,x,h,hv,r=>by
  cases v<;>first|(simp [mV] at h;done)|skip
  simp only[mV] at h
  split at h
  ·rename_i l hc
   obtain⟨e1,e2⟩:=jm hc
   subst e1;cases e2;cases h
   exact⟨_,rfl,by show RSl Z.h Z.Φ _ _ _ _;rw[hM.h,hM.Φ];exact hv⟩
  ·cases h
 |.zi2 u fo,v,ls,x,h,hv,r=>by
  cases v<;>first|(simp [mV] at h;done)|skip
  simp only[mV] at h
  split at h
  ·rename_i hq
   subst hq
   split at h
   ·rename_i hfo
    have hfo:=zj hfo
    subst hfo
    cases h
    obtain⟨m,off,ver,lim,cs,h1,h2,h3,h4,h5,h6⟩:=hv
    exact⟨_,rfl,m,off,ver,lim,cs,h1,by rw[hM.Φ];exact h2,h3,by rw[hM.h];exact h4,h5,by rw[hM.h,hM.Φ];exact h6⟩
   ·cases h
  ·cases h
 |.ptr loc off lim,v,ls,x,h,hv,r=>by
  cases v<;>first|(simp [mV] at h;done)|skip
  simp only[mV] at h
  split at h
  ·rename_i hb
   simp only[yc] at hb
   obtain⟨⟨⟨h1,h2⟩,h3⟩,h4⟩:=hb
   have h1:=zj h1;have h2:=zj h2;have h3:=zj h3
   subst h1;subst h2;subst h3;cases h
   obtain⟨m,q1,q2⟩:=hv
   exact⟨_,rfl,m,hM.at_ _ _ q1 (kS h4),q2⟩
  ·cases h
 |.zjA g off lim,v,ls,x,h,hv,r=>by
  cases v<;>first|(simp [mV] at h;done)|skip
  simp only[mV] at h
  split at h
  ·rename_i hb
   simp only[yc] at hb
   obtain⟨⟨h1,h2⟩,h3⟩:=hb
   have h1:=zj h1;have h2:=zj h2;have h3:=zj h3
   subst h1;subst h2;subst h3;cases h
   exact⟨_,rfl,hv⟩
  ·cases h
 |.zpK loc n len,v,ls,x,h,hv,r=>by
  cases v<;>first|(simp [mV] at h;done)|skip
  simp only[mV] at h
  split at h
  ·rename_i hb
   simp only[yc] at hb
   obtain⟨⟨h1,h2⟩,h3⟩:=hb
   have h1:=zj h1;have h3:=zj h3
   subst h1;subst h3;cases h
   exact⟨_,rfl,hv.1,hM.cur h2 hv.2⟩
  ·cases h
 |.gs loc n,v,ls,x,h,hv,r=>by
  cases v<;>first|(simp [mV] at h;done)|skip
  simp only[mV] at h
  split at h
  ·rename_i hb
   simp only[yc] at hb
   have h1:=zj hb.1
   subst h1;cases h
   exact⟨_,rfl,hv.1,hM.cur hb.2 hv.2⟩
  ·cases h
 |.sl loc n c,v,ls,x,h,hv,r=>by
  cases v<;>first|(simp [mV] at h;done)|skip
  simp only[mV] at h
  split at h
  ·rename_i hb
   simp only[yc,beq_iff_eq] at hb
   obtain⟨⟨h1,h2⟩,rfl⟩:=hb
   have h1:=zj h1
   subst h1;cases h
   exact⟨_,rfl,hv.1,hM.cur h2 hv.2⟩
  ·cases h
 |.zks loc n fo,v,ls,x,h,hv,r=>by
  cases v<;>first|(simp [mV] at h;done)|skip
  simp only[mV] at h
  split at h
  ·rename_i hb
   simp only[yc] at hb
   obtain⟨⟨h1,h2⟩,h3⟩:=hb
   have h1:=zj h1;have h3:=zj h3
   subst h1;subst h3;cases h
   exact⟨_,rfl,hv.1,hM.cur h2 hv.2⟩
  ·cases h
 |.map loc,v,ls,x,h,hv,r=>by
  cases v<;>first|(simp [mV] at h;done)|skip
  simp only[mV] at h
  split at h
  ·rename_i hb
   simp only[yc] at hb
   have h1:=zj hb.1
   subst h1;cases h
   obtain⟨m,q1,q2⟩:=hv
   exact⟨_,rfl,m,hM.at_ _ _ q1 (kS hb.2),q2⟩
  ·cases h
 |.yld loc,v,ls,x,h,hv,r=>by
  cases v<;>first|(simp [mV] at h;done)|skip
  simp only[mV] at h
  split at h
  ·rename_i hb
   simp only[yc] at hb
   have h1:=zj hb.1
   subst h1;cases h
   obtain⟨m,q1,q2⟩:=hv
   exact⟨_,rfl,m,hM.at_ _ _ q1 (kS hb.2),q2⟩
  ·cases h
 |.fn f a b,v,ls,x,h,hv,r=>by
  cases v<;>first|(simp [mV] at h;done)|skip
  simp only[mV] at h
  split at h
  ·rename_i l1 l2 hf h1 h2
   have hf:=zj hf
   subst hf;cases h
   obtain⟨a',b',rfl,q1,q2⟩:=hv
   obtain⟨wa,e1,q3⟩:=xB hM a h1 q1 (l2++r)
   obtain⟨wb,e2,q4⟩:=xB hM b h2 q2 r
   refine⟨.fn f wa wb,?_,a',b',rfl,q3,q4⟩
   simp only[iV,yr,e1,e2]
  ·cases h
 |.ifc t p,v,ls,x,h,hv,r=>by
  cases v<;>first|(simp [mV] at h;done)|skip
  simp only[mV] at h
  split at h
  ·rename_i ht
   have ht:=zj ht
   subst ht
   obtain⟨y,rfl,q1⟩:=hv
   obtain⟨w,e1,q2⟩:=zo9 hM p h q1 r
   exact⟨.ifc t w,by simp only[iV,e1],y,rfl,q2⟩
  ·cases h
 |.agg l,v,ls,x,h,hv,r=>by
  cases v<;>first|(simp [mV] at h;done)|skip
  simp only[mV] at h
  obtain⟨y,rfl,q1⟩:=hv
  obtain⟨w,e1,q2⟩:=xB hM l h q1 r
  exact⟨.agg w,by simp only[iV,e1],y,rfl,q2⟩
 |.tup l,v,ls,x,h,hv,r=>by
  cases v<;>first|(simp [mV] at h;done)|skip
  simp only[mV] at h
  obtain⟨y,rfl,q1⟩:=hv
  obtain⟨w,e1,q2⟩:=xB hM l h q1 r
  exact⟨.tup w,by simp only[iV,e1],y,rfl,q2⟩
theorem xB{ph:List PB}{X Z:Gst}(hM:Mt ph X Z):∀ (p:List PV) {v:List SV} {ls:List Lf} {x:List AV},mVs ph X.sh p v=some ls->RVs X v x->∀ r,∃ w,iVs p (ls++r)=(w,r)/\RVs Z w x
 | [],v,ls,x,h,hv,r=>by
  cases v with
  |nil=>simp [mVs] at h;subst h;exact⟨[],rfl,hv⟩
  |cons=>simp [mVs] at h
 |p::l,v,ls,x,h,hv,r=>by
  cases v with
  |nil=>simp [mVs] at h
  |cons v vs=>
   simp only[mVs] at h
   split at h
   ·rename_i l1 l2 h1 h2
    cases h
    obtain⟨y,ys,rfl,q1,q2⟩:=hv
    obtain⟨wa,e1,q3⟩:=zo9 hM p h1 q1 (l2++r)
    obtain⟨wb,e2,q4⟩:=xB hM l h2 q2 r
    refine⟨wa::wb,?_,y,ys,rfl,q3,q4⟩
    simp only[iVs,yr,e1,e2]
   ·cases h
end
end Go.Sx
namespace Go.Sx
open Go Go.Gx Go.Mx
variable [kF]
mutual
theorem zy2{ph:List PB}{h0:SH}:∀ (p:PV) {v:SV} {ls:List Lf},mV ph h0 p v=some ls->∀ r,∃ w,iV p (ls++r)=(w,r)
 |.drop,v,ls,h,r=>by simp [mV] at h;subst h;exact⟨_,rfl⟩
 |.bool,v,ls,h,r=>by
  cases v<;>first|(simp [mV] at h;done)|skip
  rename_i w;cases w<;>first|(simp [mV] at h;done)|skip
  simp [mV] at h;subst h;exact⟨_,rfl⟩
 |.int k,v,ls,h,r=>by
  cases v<;>first|(simp [mV] at h;done)|skip
  rename_i w;cases w<;>first|(simp [mV] at h;done)|skip
  simp [mV] at h;obtain⟨rfl,rfl⟩:=h;exact⟨_,rfl⟩
 |.u8,v,ls,h,r=>by
  cases v<;>first|(simp [mV] at h;done)|skip
  simp [mV] at h;subst h;exact⟨_,rfl⟩
 |.str,v,ls,h,r=>by
  cases v<;>first|(simp [mV] at h;done)|skip
  rename_i w;cases w<;>first|(simp [mV] at h;done)|skip
  simp [mV] at h;subst h;exact⟨_,rfl⟩
 |.cst c,v,ls,h,r=>by
  cases v<;>first|(simp [mV] at h;done)|skip
  simp only[mV] at h
  split at h
  ·cases h;exact⟨_,rfl⟩
  ·cases h
 |.isl u,v,ls,h,r=>by
  cases v<;>first|(simp [mV] at h;done)|skip
  simp only[mV] at h
  split at h
  ·cases h;exact⟨_,rfl⟩
  ·cases h
 |.ptr loc off lim,v,ls,h,r=>by
  cases v<;>first|(simp [mV] at h;done)|skip
  simp only[mV] at h
  split at h
  ·cases h;exact⟨_,rfl⟩
  ·cases h
 |.zjA g off lim,v,ls,h,r=>by
  cases v<;>first|(simp [mV] at h;done)|skip
  simp only[mV] at h
  split at h
  ·cases h;exact⟨_,rfl⟩
  ·cases h
 |.zpK loc n len,v,ls,h,r=>by
  cases v<;>first|(simp [mV] at h;done)|skip
  simp only[mV] at h
  split at h
  ·cases h;exact⟨_,rfl⟩
  ·cases h
 |.gs loc n,v,ls,h,r=>by
  cases v<;>first|(simp [mV] at h;done)|skip
  simp only[mV] at h
  split at h
  ·cases h;exact⟨_,rfl⟩
  ·cases h
 |.sl loc n c,v,ls,h,r=>by
  cases v<;>first|(simp [mV] at h;done)|skip
  simp only[mV] at h
  split at h
  ·cases h;exact⟨_,rfl⟩
  ·cases h
 |.zks loc n fo,v,ls,h,r=>by
  cases v<;>first|(simp [mV] at h;done)|skip
  simp only[mV] at h
  split at h
  ·cases h;exact⟨_,rfl⟩
  ·cases h
 |.map loc,v,ls,h,r=>by
  cases v<;>first|(simp [mV] at h;done)|skip
  simp only[mV] at h
  split at h
  ·cases h;exact⟨_,rfl⟩
  ·cases h
 |.yld loc,v,ls,h,r=>by
  cases v<;>first|(simp [mV] at h;done)|skip
  simp only[mV] at h
  split at h
  ·cases h;exact⟨_,rfl⟩
  ·cases h
 |.zi2 u fo,v,ls,h,r=>by
  cases v<;>first|(simp [mV] at h;done)|skip
  simp only[mV] at h
  split at h
  ·split at h
   ·cases h;exact⟨_,rfl⟩
   ·cases h
  ·cases h
 |.fn f a b,v,ls,h,r=>by
  cases v<;>first|(simp [mV] at h;done)|skip
  simp only[mV] at h
  split at h
  ·rename_i l1 l2 hf h1 h2
   cases h
   obtain⟨wa,e1⟩:=zeB a h1 (l2++r)
   obtain⟨wb,e2⟩:=zeB b h2 r
   exact⟨.fn f wa wb,by simp only[iV,yr,e1,e2]⟩
  ·cases h
 |.ifc t p,v,ls,h,r=>by
  cases v<;>first|(simp [mV] at h;done)|skip
  simp only[mV] at h
  split at h
  ·obtain⟨w,e1⟩:=zy2 p h r
   exact⟨.ifc t w,by simp only[iV,e1]⟩
  ·cases h
 |.agg l,v,ls,h,r=>by
  cases v<;>first|(simp [mV] at h;done)|skip
  simp only[mV] at h
  obtain⟨w,e1⟩:=zeB l h r
  exact⟨.agg w,by simp only[iV,e1]⟩
 |.tup l,v,ls,h,r=>by
  cases v<;>first|(simp [mV] at h;done)|skip
  simp only[mV] at h
  obtain⟨w,e1⟩:=zeB l h r
  exact⟨.tup w,by simp only[iV,e1]⟩
theorem zeB{ph:List PB}{h0:SH}:∀ (p:List PV) {v:List SV} {ls:List Lf},mVs ph h0 p v=some ls->∀ r,∃ w,iVs p (ls++r)=(w,r)
 | [],v,ls,h,r=>by
  cases v with
  |nil=>simp [mVs] at h;subst h;exact⟨[],rfl⟩
  |cons=>simp [mVs] at h
 |p::l,v,ls,h,r=>by
  cases v with
  |nil=>simp [mVs] at h
  |cons v vs=>
   simp only[mVs] at h
   split at h
   ·rename_i l1 l2 h1 h2
    cases h
    obtain⟨wa,e1⟩:=zy2 p h1 (l2++r)
    obtain⟨wb,e2⟩:=zeB l h2 r
    exact⟨wa::wb,by simp only[iVs,yr,e1,e2]⟩
   ·cases h
end
theorem zra{X Z:Gst}(hh:Z.h=X.h)(hΦ:Z.Φ=X.Φ):∀ (u:U) (x:El u) {ys:List AV},RVs X (enc u x) ys->RVs Z (enc u x) ys
 |.bool,_,_,q=>q
 |.int _,_,_,q=>q
 |.u8,_,_,q=>q
 |.str,_,_,q=>q
 |.sl u,l,_,⟨y,ys,e,q1,q2⟩=>⟨y,ys,e,by show RSl Z.h Z.Φ false u l y;rw[hh,hΦ];exact q1,q2⟩
 |.pair u v,x,_,q=>by
  rename_i ys
  have h1:=q.take (enc u x.1).length
  have h2:=q.drop (enc u x.1).length
  rw[show enc (.pair u v) x=enc u x.1++enc v x.2 from rfl] at h1 h2
  rw[vO] at h1
  rw[vP] at h2
  have:=(zra hh hΦ u x.1 h1).append (zra hh hΦ v x.2 h2)
  rwa [yT] at this
 |.unit,_,_,q=>q
theorem zxK{X Z:Gst}(hh:Z.h=X.h)(hΦ:Z.Φ=X.Φ):∀ (u:U) (x:El u) {y:AV},RV X (zm4 u x) y->RV Z (zm4 u x) y
 |.bool,_,_,q=>q
 |.int _,_,_,q=>q
 |.u8,_,_,q=>q
 |.str,_,_,q=>q
 |.sl u,l,y,q=>by show RSl Z.h Z.Φ false u l y;rw[hh,hΦ];exact q
 |.pair u v,x,_,⟨ys,e,q⟩=>⟨ys,e,zra hh hΦ (.pair u v) x q⟩
 |.unit,_,_,q=>q
theorem zw0{α:Type}{X Z:Gst}(hh:Z.h=X.h)(hΦ:Z.Φ=X.Φ)(u:U)(f:α->El u):∀ (l:List α) {ys:List AV},RVs X (l.map fun p=>zm4 u (f p)) ys->RVs Z (l.map fun p=>zm4 u (f p)) ys
 | [],_,q=>q
 |p::l,_,⟨y,ys,e,q1,q2⟩=>⟨y,ys,e,zxK hh hΦ u _ q1,zw0 hh hΦ u f l q2⟩
def mB(ph:List PB)(h:SH):PB->SB->Option (List Lf)
 |.cells l md mk,.cells l' md' mk'=>match ye md md'&&mkB mk mk' with
  |true=>mVs ph h l l'
  |false=>none
 |.loop pe id md,.loop e id' md'=>match ye md md'&&ye id id' with
  |true=>mVs ph h pe e
  |false=>none
 |.seq u n md fx,.seq u' l k md'=>match ye md md'&&((!fx||ye k n)&&mkB (mkS n) (mkS k)),zbr u' u l with
  |true,some l=>some [.l u l]
  |_,_=>none
 |.map ks vs md,.map ks' vs' md'=>match ye md md',mVs ph h ks ks',mVs ph h vs vs' with
  |true,some a,some b=>some (a++b)
  |_,_,_=>none
 |.kv u v md,b=>match b with
  |.kv u' v' l md'=>match ye md md',zbr (.pair u' v') (.pair u v) l with
   |true,some l=>some [.l (.pair u v) l]
   |_,_=>none
  |.map ks vs md'=>match ye md md',ks,vs with
   |true,[],[]=>some [.l (.pair u v) []]
   |_,_,_=>none
  |_=>none
 |.gone,_=>some []
 |_,_=>none
def mBs(ph:List PB)(h:SH):List PB->List SB->Option (List Lf)
 | [],_=>some []
 |p::l,b::r=>match mB ph h p b,mBs ph h l r with
  |some x,some y=>some (x++y)
  |_,_=>none
 |_,_=>none
def iB:PB->List Lf->SB×List Lf
 |.cells l md mk,r=>(.cells (iVs l r).1 md mk,(iVs l r).2)
 |.seq u n md fx,.l u' x::r=>(.seq u' x n md,r)
 |.map ks vs md,r=>(.map (iVs ks r).1 (iVs vs (iVs ks r).2).1 md,(iVs vs (iVs ks r).2).2)
 |.kv u v md,.l (.pair u' v') x::r=>(.kv u' v' x md,r)
 |.loop pe id md,r=>(.loop (iVs pe r).1 id md,(iVs pe r).2)
 |_,r=>(.gone,r)
def iBs:List PB->List Lf->List SB×List Lf
 | [],r=>([],r)
 |p::l,r=>((iB p r).1::(iBs l (iB p r).2).1,(iBs l (iB p r).2).2)
structure PS where
 env:List PV
 h:List PB
def mS(p:PS)(st:SS):Option (List Lf):=match mVs p.h st.h p.env st.env,mBs p.h st.h p.h st.h with
 |some x,some y=>some (x++y)
 |_,_=>none
def iS(p:PS)(ls:List Lf):SS:=⟨(iVs p.env ls).1,(iBs p.h (iVs p.env ls).2).1⟩
def Lk(pb:PB)(b b':SB):Prop:=(pb=.gone/\b'=.gone) \/
 (∃ l l' md mk mk',mkB mk mk'=true/\b=.cells l md mk'/\b'=.cells l' md mk/\∃ pl,pb=.cells pl md mk)\/(∃ u l k n md,b=.seq u l k md/\b'=.seq u l n md/\∃ fx,pb=.seq u n md fx/\(fx=true->k=n)/\mkB (mkS n) (mkS k)=true)\/(∃ ks vs ks' vs' md,b=.map ks vs md/\b'=.map ks' vs' md/\∃ pk pv,pb=.map pk pv md)\/(∃ u v l md,((∃ l',b=.kv u v l' md)\/b=.map [] [] md)/\b'=.kv u v l md/\pb=.kv u v md)\/(∃ e e' id md,b=.loop e id md/\b'=.loop e' id md/\∃ pe,pb=.loop pe id md)
theorem zy1{ph:List PB}{h0:SH}{p:PB}{b:SB}{ls:List Lf}(h:mB ph h0 p b=some ls)(r:List Lf):∃ w,iB p (ls++r)=(w,r)/\Lk p b w:=by
 unfold mB at h
 split at h
 ·split at h
  ·rename_i l md mk l' md' mk' _ hb
   simp only[yc] at hb
   obtain⟨hb,hmk⟩:=hb
   have hb:=zj hb
   subst hb
   obtain⟨w,e⟩:=zeB _ h r
   exact⟨.cells w md mk,by simp only[iB,e],.inr (.inl ⟨_,_,_,_,_,hmk,rfl,rfl,_,rfl⟩)⟩
  ·cases h
 ·split at h
  ·rename_i pe id md e id' md' _ hb
   simp only[yc] at hb
   cases zj hb.1;cases zj hb.2
   obtain⟨w,e⟩:=zeB _ h r
   exact⟨.loop w id md,by simp only[iB,e],.inr (.inr (.inr (.inr (.inr ⟨_,_,_,_,rfl,rfl,_,rfl⟩))))⟩
  ·cases h
 ·split at h
  ·rename_i u n md fx u' l k md' _ _ l2 hb hc
   simp only[yc,yn,vK] at hb
   obtain⟨hb,hfx,hmk⟩:=hb
   have hb:=zj hb
   subst hb
   obtain⟨e1,e2⟩:=jm hc
   subst e1;cases e2;cases h
   exact⟨.seq u' l n md,rfl,.inr (.inr (.inl ⟨_,_,_,_,_,rfl,rfl,_,rfl,fun e=>hfx.elim (fun h=>by rw[e] at h;cases h) zj,hmk⟩))⟩
  ·cases h
 ·split at h
  ·rename_i ks vs md ks' vs' md' _ _ _ a b' hb h1 h2
   have hb:=zj hb
   subst hb
   cases h
   obtain⟨w1,e1⟩:=zeB _ h1 (b'++r)
   obtain⟨w2,e2⟩:=zeB _ h2 r
   exact⟨.map w1 w2 md,by simp only[iB,yr,e1,e2],.inr (.inr (.inr (.inl ⟨_,_,_,_,_,rfl,rfl,_,_,rfl⟩)))⟩
  ·cases h
 ·rename_i u v md
  split at h
  ·split at h
   ·rename_i u' v' l' md' _ _ l2 hb hc
    have hb:=zj hb
    subst hb
    obtain⟨e1,e2⟩:=jm hc
    cases e1;cases e2;cases h
    exact⟨.kv u v l' md,rfl,.inr (.inr (.inr (.inr (.inl ⟨_,_,_,_,.inl ⟨_,rfl⟩,rfl,rfl⟩))))⟩
   ·cases h
  ·split at h
   ·rename_i ks vs md' hb
    have hb:=zj hb
    subst hb
    cases h
    exact⟨.kv u v [] md,rfl,.inr (.inr (.inr (.inr (.inl ⟨_,_,_,_,.inr rfl,rfl,rfl⟩))))⟩
   ·cases h
  ·cases h
 ·cases h;exact⟨.gone,rfl,.inl ⟨rfl,rfl⟩⟩
 ·cases h
theorem zvL{ph:List PB}{h0:SH}:∀ {pl:List PB} {bl:List SB} {ls:List Lf},mBs ph h0 pl bl=some ls->∀ r,∃ zs,iBs pl (ls++r)=(zs,r)/\zs.length=pl.length/\pl.length<=bl.length/\∀ (i:Nat) (b':SB),zs[i]?=some b'->∃ pb b,pl[i]?=some pb/\bl[i]?=some b/\Lk pb b b'
 | [],bl,ls,h,r=>by simp [mBs] at h;subst h;exact⟨[],rfl,rfl,vl _,fun i b' h=>by simp at h⟩
 |p::pl,bl,ls,h,r=>by
  cases bl with
  |nil=>simp [mBs] at h
  |cons b bl=>
   simp only[mBs] at h
   split at h
   ·rename_i l1 l2 h1 h2
    cases h
    obtain⟨w,e1,k1⟩:=zy1 h1 (l2++r)
    obtain⟨zs,e2,k2,k3,k4⟩:=zvL h2 r
    refine⟨w::zs,by simp only[iBs,yr,e1,e2],by simp [k2],by simp [k3],fun i b' hi=>?_⟩
    cases i with
    |zero=>simp at hi;subst hi;exact⟨p,b,rfl,rfl,k1⟩
    |succ i=>simpa using k4 i b' (by simpa using hi)
   ·cases h
theorem zt9{ph:List PB}{X Z:Gst}(hM:Mt ph X Z){p:PB}{b:SB}{ls:List Lf}(h:mB ph X.sh p b=some ls){o:Option (Nat×Nat)}(hB:RB X b o)(r:List Lf):RB Z (iB p (ls++r)).1 o:=by
 unfold mB at h
 split at h
 ·split at h
  ·rename_i hb
   simp only[yc] at hb
   obtain⟨m,l',tt,e,h1,h2⟩:=hB
   obtain⟨w,e1,q⟩:=xB hM _ h h2 r
   obtain⟨tt',htt⟩:=zrV hb.2 tt
   simp only[iB,e1]
   exact⟨m,l',tt',e,by rw[hM.h,<- htt];exact h1,q⟩
  ·cases h
 ·split at h
  ·obtain⟨m,env',ps,asg,body,e,h1,h2,h3⟩:=hB
   rename_i hb
   simp only[yc] at hb
   cases zj hb.2
   obtain⟨w,e1,q⟩:=xB hM _ h h3 r
   simp only[iB,e1]
   exact⟨m,env',ps,asg,body,e,h1,by rw[hM.h];exact h2,q⟩
  ·cases h
 ·split at h
  ·rename_i u n md fx u' l k md' _ _ l2 hb hc
   obtain⟨e1,e2⟩:=jm hc
   subst e1;cases e2;cases h
   simp only[yc] at hb
   obtain⟨hb,_,hmk⟩:=hb
   have hb:=zj hb
   subst hb
   cases o with
   |none=>exact hB
   |some p=>
    obtain⟨m,ver⟩:=p
    obtain⟨cells,minv,tt,h1,h2,h3,h4⟩:=hB
    obtain⟨tt',htt⟩:=zrV hmk tt
    refine⟨cells,minv,tt',by rw[hM.h,<- htt];exact h1,h2,by rw[hM.h,hM.Φ];exact h3,fun e=>by rw[hM.Φ];exact h4 e⟩
  ·cases h
 ·split at h
  ·rename_i ks vs md ks' vs' md' _ _ _ a b' hb h1 h2
   cases h
   obtain⟨m,es,e,q1,q2,q3⟩:=hB
   obtain⟨w1,e1,r1⟩:=xB hM _ h1 q2 (b'++r)
   obtain⟨w2,e2,r2⟩:=xB hM _ h2 q3 r
   simp only[iB,yr,e1,e2]
   exact⟨m,es,e,by rw[hM.h];exact q1,r1,r2⟩
  ·cases h
 ·rename_i u v md
  split at h
  ·split at h
   ·rename_i u' v' l' md' _ _ l2 hb hc
    obtain⟨e1,e2⟩:=jm hc
    cases e1;cases e2;cases h
    have hb:=zj hb
    subst hb
    obtain⟨m,es,e,q1,q2,q3⟩:=hB
    exact⟨m,es,e,by rw[hM.h];exact q1,zw0 hM.h hM.Φ _ _ _ q2,zw0 hM.h hM.Φ _ _ _ q3⟩
   ·cases h
  ·split at h
   ·rename_i hb
    cases h
    obtain⟨m,es,e,q1,q2,q3⟩:=hB
    exact⟨m,es,e,by rw[hM.h];exact q1,q2,q3⟩
   ·cases h
  ·cases h
 ·trivial
 ·cases h
theorem zma{ph:List PB}{X Z:Gst}(hM:Mt ph X Z):∀ {pl:List PB} {bl:List SB} {ls:List Lf},mBs ph X.sh pl bl=some ls->∀ (r:List Lf) (i:Nat) (b b':SB) (o:Option (Nat×Nat)),(iBs pl (ls++r)).1[i]?=some b'->bl[i]?=some b->RB X b o->RB Z b' o
 | [],bl,ls,h,r,i,b,b',o,hz,hb,hB=>by simp [iBs] at hz
 |p::pl,bl,ls,h,r,i,b,b',o,hz,hb,hB=>by
  cases bl with
  |nil=>simp [mBs] at h
  |cons b0 bl=>
   simp only[mBs] at h
   split at h
   ·rename_i l1 l2 h1 h2
    cases h
    obtain⟨w,e1,k1⟩:=zy1 h1 (l2++r)
    cases i with
    |zero=>
     simp only[yK,yx] at hb
     subst hb
     simp only[iBs,yK,yx,yr] at hz
     subst hz
     exact zt9 hM h1 hB _
    |succ i=>
     simp only[iBs,yL,yr,e1] at hz
     exact zma hM h2 r i b b' o hz (by simpa using hb) hB
   ·cases h
end Go.Sx
namespace Go.Sx
open Go Go.Gx Go.Mx
variable [kF]
theorem Dk.zCH{k:Nat×Option Nat}{X:Gst}{h:zg}{Φ:Nat->Prop}{σ:List (Option (Nat×Nat))}{sh:SH}{dl:List Dfd}{rnd:Option Nat}(q:Dk k X dl rnd)(hh:h=X.h)(hΦ:Φ=X.Φ)
  (hσ:∀ (i:Nat) (o:Option (Nat×Nat)),σ[i]?=some o->X.σ[i]?=some o) (hz:∀ (i m v:Nat) (b:SB),sh[i]?=some b->σ[i]?=some (some (m,v))->k.2=some m->Kp X m->b=.gone):Dk k ⟨h,Φ,σ,sh⟩ dl rnd:=by
 subst hh;subst hΦ
 exact⟨q.base,q.nd,fun d hd=>let⟨m,h1,h2,h3,h4,h5⟩:=q.dl d hd;⟨m,h1,h2,h3,⟨h4.lt,h4.phi,fun i v b hb ho=>absurd (hσ i _ ho) (h5 i v)⟩,fun i v e=>h5 i v (hσ i _ e)⟩,q.rnd,fun m hm=>let⟨h1,h2⟩:=q.lo m hm;⟨h1,h2.lt,h2.phi,fun i v b hb ho=>hz i m v b hb ho hm h2⟩⟩
theorem weaken{X0 Y:Gst}(hr0:RH X0)(hS:Stp X0 Y){q:PS}{st:SS}{ms:St}{k0:Nat×Option Nat}(hst:StR k0 Y st ms){os:List Lf}(hm:mS q st=some os)(hlen:X0.sh.length<=q.h.length)
  (hver:∀ (loc:Nat) (u:U) (n md:Nat) (fx:Bool),q.h[loc]?=some (.seq u n md fx)->loc<X0.sh.length->∃ u' l k md',X0.sh[loc]?=some (.seq u' l k md')/\(k<n\/(fx=true/\k=n)))
  (K:Nat->Bool) (hK:∀ i,K i=true->i<X0.sh.length/\Y.sh[i]?=some .gone/\Y.σ[i]?=X0.σ[i]? /\ ∀ m v,X0.σ[i]?=some (some (m,v))->Y.h[m]?=X0.h[m]? /\ (Y.Φ m->X0.Φ m))
  (hlo:∀ m,k0.2=some m->Kp X0 m) {zh:SH} (hzl:zh.length=(iS q os).h.length) (hz:∀ i,zh[i]?=if K i=true then X0.sh[i]? else(iS q os).h[i]?):
  ∃ Z,Stp X0 Z/\StR k0 Z ⟨(iS q os).env,zh⟩ ms/\Z.h=Y.h/\Z.Φ=Y.Φ/\Z.σ=Y.σ.take q.h.length/\∀ (i:Nat),q.h[i]?=some .gone->(iS q os).h[i]?=some .gone:=by
 unfold mS at hm
 split at hm
 ·rename_i l1 l2 h1 h2
  cases hm
  rw[<- hst.sh] at h1 h2
  obtain⟨we,e1⟩:=zeB q.env h1 l2
  obtain⟨zs,e2,k1,k2,k3⟩:=zvL h2 []
  rw[yz] at e2
  have hiS:iS q (l1++l2)=⟨we,zs⟩:=by unfold iS;rw[e1,e2]
  rw[hiS] at hz hzl |-
  have hzl:zh.length=zs.length:=hzl
  have hz:∀ (i:Nat),zh[i]?=if K i=true then X0.sh[i]? else zs[i]?:=hz
  have hσn:(Y.σ.take q.h.length).length=q.h.length:=by rw[List.length_take,hS.hr.len];omega
  have hσg:∀ (i:Nat),i<q.h.length->(Y.σ.take q.h.length)[i]?=Y.σ[i]?:=fun i hi=>by rw[yW,if_pos hi]
  have hσs:∀ (i:Nat) o,(Y.σ.take q.h.length)[i]?=some o->Y.σ[i]?=some o/\i<q.h.length:=fun i o h=>by
   rw[yW] at h;split at h
   ·rename_i hi;exact⟨h,hi⟩
   ·cases h
  have hzs:∀ (i:Nat),i<q.h.length->∃ b',zs[i]?=some b':=fun i hi=>⟨zs[i]'(by omega),yb _⟩
  have hM:Mt q.h Y ⟨Y.h,Y.Φ,Y.σ.take q.h.length,zh⟩:=by
   refine⟨rfl,rfl,fun loc m ⟨v,h⟩ hl=>⟨v,(hσg loc hl).trans h⟩,fun loc u n md fx u' l k md' hp hb=>?_⟩
   have hl:=(ya.1 hp).1
   refine⟨?_,hσg loc hl⟩
   show zh[loc]?=_
   rw[hz,if_neg (fun hk=>by have:=(hK loc hk).2.1;rw[hb] at this;cases this)]
   obtain⟨b',hb'⟩:=hzs loc hl
   obtain⟨pb,b,h3,h4,h5⟩:=k3 loc b' hb'
   rw[hp] at h3;cases h3
   rw[hb] at h4;cases h4
   rw[hb']
   rcases h5 with⟨h,_⟩|⟨_,_,_,_,_,_,_,_,_,h⟩|⟨u3,l3,k4,n3,md3,h6,h7,fx3,h8,hfx3,_⟩|⟨_,_,_,_,_,_,_,_,_,h⟩|⟨_,_,_,_,_,_,h⟩|⟨_,_,_,_,_,_,_,h⟩
   ·cases h
   ·cases h
   ·cases h6;cases h8;rw[h7]
   ·cases h
   ·cases h
   ·cases h
  obtain⟨we',e3,hwe⟩:=xB hM q.env h1 hst.env l2
  rw[e1] at e3
  cases e3
  have hle:X0.le ⟨Y.h,Y.Φ,Y.σ.take q.h.length,zh⟩:=by
   refine⟨hS.le.h,hS.le.Φ,by show _<=(Y.σ.take q.h.length).length;rw[hσn,hr0.len];exact hlen,fun loc m v h=>?_,fun loc u l k md hl hs=>?_,hS.le.shl⟩
   ·obtain⟨v',h'⟩:=hS.le.at_ loc m v h
    have:=(ya.1 h).1
    exact⟨v',(hσg loc (by rw[hr0.len] at this;omega)).trans h'⟩
   ·have hs:zh[loc]?=some (.seq u l k md):=hs
    rw[hz] at hs
    split at hs
    ·rename_i hk
     exact⟨l,k,md,hs,yd _,fun _=>⟨rfl,(hσg loc (by omega)).trans (hK loc hk).2.2.1⟩⟩
    ·obtain⟨pb,b,h3,h4,h5⟩:=k3 loc _ hs
     rcases h5 with⟨_,h⟩|⟨_,_,_,_,_,_,_,h,_⟩|⟨u3,l3,k4,n3,md3,h6,h7,fx3,h8,hfx3,_⟩|⟨_,_,_,_,_,_,h,_⟩|⟨_,_,_,_,_,h,_⟩|⟨_,_,_,_,_,h,_⟩
     ·cases h
     ·cases h
     ·cases h7
      subst h6;subst h8
      obtain⟨u',l0,k0,md0,h9,h10⟩:=hver loc _ _ _ _ h3 hl
      obtain⟨l',k',md',h11,h12,h13⟩:=hS.le.seq loc _ _ _ _ hl h4
      rw[h9] at h11;cases h11
      rcases h10 with h10|⟨h10,h14⟩
      ·exact⟨_,_,_,h9,yS h10,fun e=>absurd e (by omega)⟩
      ·have hk:=hfx3 h10
       subst hk;subst h14
       obtain⟨q1,q2⟩:=h13 rfl
       exact⟨_,_,_,h9,yd _,fun _=>⟨q1,(hσg loc (by omega)).trans q2⟩⟩
     ·cases h
     ·cases h
     ·cases h
  refine⟨⟨Y.h,Y.Φ,Y.σ.take q.h.length,zh⟩,⟨hle,⟨?_,fun i j m v v' h3 h4=>?_,fun i m v h3=>?_,hS.hr.Φlt,fun i b o h3 h4=>?_,fun i m v b h3 h4 h5=>?_⟩,⟨hS.fm.len,hS.fm.h,fun i b hb hmd=>?_,fun i m v h3 hm=>?_,fun i h3=>?_,hS.fm.phi⟩⟩,⟨hwe,rfl,hst.h,hst.dk.zCH rfl rfl (fun i o e=>(hσs i o e).1) fun i m v b h3 h4 hkm hk=>?_⟩,rfl,rfl,rfl,fun i hi=>?_⟩
  ·show(Y.σ.take q.h.length).length=zh.length;rw[hσn,hzl,k1]
  ·exact hS.hr.inj _ _ _ _ _ (hσs _ _ h3).1 (hσs _ _ h4).1
  ·exact hS.hr.lt _ _ _ (hσs _ _ h3).1
  ·have h3:zh[i]?=some b:=h3
   obtain⟨h4,h5⟩:=hσs _ _ h4
   rw[hz] at h3
   split at h3
   ·rename_i hk
    obtain⟨q1,q2,q3,q4⟩:=hK i hk
    rw[q3] at h4
    exact(hr0.blk i b o h3 h4).le hle fun m v e=>(q4 m v (e ▸ h4)).1
   ·obtain⟨pb,b0,h6,h7,h8⟩:=k3 i _ h3
    have:=zma hM h2 [] i b0 b o (by rw[yz,e2];exact h3) h7 (hS.hr.blk i b0 o h7 h4)
    exact this
  ·have h3:zh[i]?=some b:=h3
   obtain⟨h4,h6⟩:=hσs _ _ h4
   rw[hz] at h3
   split at h3
   ·rename_i hk
    obtain⟨q1,q2,q3,q4⟩:=hK i hk
    rw[q3] at h4
    exact hr0.own i m v b h3 h4 ((q4 m v h4).2 h5)
   ·obtain⟨pb,b0,h6,h7,h8⟩:=k3 i _ h3
    have ho:=hS.hr.own i m v b0 h7 h4 h5
    rcases h8 with⟨_,h⟩|⟨_,_,_,_,_,_,rfl,rfl,_⟩|⟨_,_,_,_,_,rfl,rfl,_⟩|⟨_,_,_,_,_,rfl,rfl,_⟩|⟨_,_,_,_,⟨_,rfl⟩|rfl,rfl,_⟩|⟨_,_,_,_,rfl,rfl,_⟩
    ·exact .inr h
    ·exact ho.imp id fun h=>by cases h
    ·exact ho.imp id fun h=>by cases h
    ·exact ho.imp id fun h=>by cases h
    ·exact ho.imp id fun h=>by cases h
    ·exact ho.imp id fun h=>by cases h
    ·exact ho.imp id fun h=>by cases h
  ·have hi:=(ya.1 hb).1
   show ∃ b',zh[i]?=some b'/\_
   rw[hz]
   split
   ·exact⟨b,hb,hmd⟩
   ·obtain⟨b',hb'⟩:=hzs i (by omega)
    obtain⟨pb,b0,h6,h7,h8⟩:=k3 i _ hb'
    obtain⟨b2,h9,h10⟩:=hS.fm.md i b hb hmd
    rw[h7] at h9;cases h9
    refine⟨b',hb',?_⟩
    rcases h8 with⟨_,rfl⟩|⟨_,_,_,_,_,_,rfl,rfl,_⟩|⟨_,_,_,_,_,rfl,rfl,_⟩|⟨_,_,_,_,_,rfl,rfl,_⟩|⟨_,_,_,_,⟨_,rfl⟩|rfl,rfl,_⟩|⟨_,_,_,_,rfl,rfl,_⟩
    ·simp [SB.md]
    ·exact h10
    ·exact h10
    ·exact h10
    ·exact h10
    ·exact h10
    ·exact h10
  ·exact hS.fm.new i m v (hσs _ _ h3).1 hm
  ·have hi:=(ya.1 h3).1
   obtain⟨h4,h5⟩:=hS.fm.gone i h3
   refine⟨?_,(hσg i (by omega)).trans h5⟩
   show zh[i]?=_
   rw[hz]
   split
   ·exact h3
   ·obtain⟨b',hb'⟩:=hzs i (by omega)
    obtain⟨pb,b0,h6,h7,h8⟩:=k3 i _ hb'
    rw[h4] at h7;cases h7
    rcases h8 with⟨_,rfl⟩|⟨_,_,_,_,_,_,h,_⟩|⟨_,_,_,_,_,h,_⟩|⟨_,_,_,_,_,h,_⟩|⟨_,_,_,_,⟨_,h⟩|h,_⟩|⟨_,_,_,_,h,_⟩
    ·exact hb'
    ·cases h
    ·cases h
    ·cases h
    ·cases h
    ·cases h
    ·cases h
  ·obtain⟨h4,h5⟩:=hσs _ _ h4
   have h3:zh[i]?=some b:=h3
   rw[hz] at h3
   split at h3
   ·rename_i hk2
    obtain⟨q1,q2,q3,q4⟩:=hK i hk2
    exact(hlo m hkm).gone i v b h3 (by rw[<- q3];exact h4)
   ·obtain⟨pb,b0,h6,h7,h8⟩:=k3 i _ h3
    have hg0:=hk.gone i v b0 h7 h4
    subst hg0
    rcases h8 with⟨_,h⟩|⟨_,_,_,_,_,_,h,_⟩|⟨_,_,_,_,_,h,_⟩|⟨_,_,_,_,_,h,_⟩|⟨_,_,_,_,⟨_,h⟩|h,_⟩|⟨_,_,_,_,h,_⟩
    ·exact h
    ·cases h
    ·cases h
    ·cases h
    ·cases h
    ·cases h
    ·cases h
  ·have hl:=(ya.1 hi).1
   obtain⟨b',hb'⟩:=hzs i hl
   obtain⟨pb,b0,h6,h7,h8⟩:=k3 i _ hb'
   rw[hi] at h6;cases h6
   rcases h8 with⟨_,rfl⟩|⟨_,_,_,_,_,_,_,_,_,h⟩|⟨_,_,_,_,_,_,_,_,h,_⟩|⟨_,_,_,_,_,_,_,_,_,h⟩|⟨_,_,_,_,_,_,h⟩|⟨_,_,_,_,_,_,_,h⟩
   ·exact hb'
   ·cases h
   ·cases h
   ·cases h
   ·cases h
   ·cases h
 ·cases hm
end Go.Sx
namespace Go.Sx
open Go Go.Gx Go.Mx
variable [kF]
def prN(t:Nat):Nat:=t/1099511627776*65536
def zpk:List (Nat×U)->SS->SS
 | [],st=>st
 |(t,u)::l,st=>match t % 1099511627776/65536 with
  |0=>match st.env[t % 65536]? with
   |some (.a .qC)=>zpk l ⟨st.env.set (t % 65536) (.gs st.h.length (prN t)),st.h++[.seq u [] (prN t) 0]⟩
   |_=>zpk l st
  |loc+1=>match st.h[loc]? with
   |some (.cells cs 0 mk)=>match cs[t % 65536]? with
    |some (.a .qC)=>zpk l ⟨st.env,(st.h++[SB.seq u [] (prN t) 0]).set loc (.cells (cs.set (t % 65536) (.gs st.h.length (prN t))) 0 mk)⟩
    |_=>zpk l st
   |_=>zpk l st
def zBd:SV->SV->Bool
 |.ifc t (.agg []),.ifc t' (.agg [])=>ye t t'
 |_,_=>false
theorem zxh{X Z:Gst}{v w:SV}{x:AV}(h:zBd v w=true)(hv:RV X w x):RV Z v x:=by
 unfold zBd at h
 split at h
 ·have:=zj h
  subst this
  obtain⟨y,rfl,l,rfl,hl⟩:=hv
  cases(show l=[] from hl)
  exact⟨_,rfl,[],rfl,rfl⟩
 ·cases h
def zzw:SX->SX->Bool
 |.ret,.ret=>true
 |.exit i,.exit j=>ye i j
 |.panic v,.panic w=>zBd v w
 |_,_=>false
def zn6(e:SX)(st:SS){R:Type}(out:Nat->List Lf->Option R):List (SX×PS)->Nat->Option R
 | [],_=>none
 |(x,q)::l,k=>match zzw x e with
  |true=>match mS q st with
   |some os=>out k os
   |none=>zn6 e st out l (k+1)
  |false=>zn6 e st out l (k+1)
def round(P:Program)(gl:GL)(ct:CT)(n:Nat)(pl:Pl)(p:PS)(outs:List (SX×PS))(c:Code){R:Type}(ls:List Lf)(rec_:List Lf->Option R)(out:Nat->List Lf->Option R):Option R:=
 zap P gl ct n pl c (iS p ls) fun e st'=>match e with
  |.normal=>match mS p st' with
   |some ls'=>rec_ ls'
   |none=>none
  |e=>zn6 e st' out outs 0
abbrev LS:=(R:Type)->List Lf->(Nat->List Lf->Option R)->Option R
def ztN:List PB->SH->Bool
 |.seq _ n _ fx::p,b::h=>(match b with
  |.seq _ _ k _=>yQ k n||(fx&&ye k n)
  |_=>false)&&ztN p h
 |_::p,_::h=>ztN p h
 |_,_=>true
def back:SH->List PB->SH->SH
 |b0::h0,.gone::p,b::h=>(match b with
  |.gone=>b0
  |b=>b)::back h0 p h
 |_::h0,_::p,b::h=>b::back h0 p h
 |_,_,h=>h
def zmx(n:Nat)(h:SH):List (SX×PS)->Bool
 | []=>true
 |(_,q)::l=>yJ n q.h.length&&ztN q.h h&&zmx n h l
def zp(pre:List (Nat×U))(p:PS)(outs:List (SX×PS))(F:LS):LF:=fun R st K=>
 match mS p (zpk pre st),ye p.h.length (zpk pre st).h.length&&ztN p.h (zpk pre st).h&&zmx (zpk pre st).h.length (zpk pre st).h outs with
 |some ls,true=>F R ls fun k os=>match outs[k]? with
  |some (x,q)=>K x ⟨(iS q os).env,back (zpk pre st).h p.h (iS q os).h⟩
  |none=>none
 |_,_=>none
theorem zgg:∀ {p:List PB} {h:SH},ztN p h=true->∀ (loc:Nat) (u:U) (n md:Nat) (fx:Bool),p[loc]?=some (.seq u n md fx)->loc<h.length->∃ u' l k md',h[loc]?=some (.seq u' l k md')/\(k<n\/(fx=true/\k=n))
 | [],h,hv,loc,u,n,md,fx,hp,hl=>by simp at hp
 |q::p,[],hv,loc,u,n,md,fx,hp,hl=>by simp at hl
 |q::p,b::h,hv,loc,u,n,md,fx,hp,hl=>by
  cases loc with
  |zero=>
   simp at hp;subst hp
   simp only[ztN,yc] at hv
   cases b with
   |seq u' l k md'=>
    simp only[yn,yc] at hv
    exact⟨u',l,k,md',rfl,hv.1.imp kS fun h=>⟨h.1,zj h.2⟩⟩
   |_=>simp at hv
  |succ loc=>
   have hv':ztN p h=true:=by
    cases q<;>simp only[ztN,yc] at hv<;>first|exact hv|exact hv.2
   simpa using zgg hv' loc u n md fx (by simpa using hp) (by simpa using hl)
theorem ziA{n:Nat}{h:SH}:∀ {outs:List (SX×PS)},zmx n h outs=true->∀ (k:Nat) (x:SX) (q:PS),outs[k]?=some (x,q)->n<=q.h.length/\ztN q.h h=true
 | [],_,k,x,q,hk=>by simp at hk
 |(x0,q0)::l,ho,k,x,q,hk=>by
  simp only[zmx,yc] at ho
  cases k with
  |zero=>simp at hk;obtain⟨rfl,rfl⟩:=hk;exact⟨yk ho.1.1,ho.1.2⟩
  |succ k=>exact ziA ho.2 k x q (by simpa using hk)
def kept(h0:SH)(p:List PB)(h:SH)(i:Nat):Bool:=match h0[i]?,p[i]?,h[i]? with
 |some _,some .gone,some .gone=>true
 |_,_,_=>false
theorem zoI:∀ {h0:SH} {p:List PB} {h:SH} (i:Nat),(back h0 p h)[i]?=if kept h0 p h i=true then h0[i]? else h[i]?
 | [],p,h,i=>by simp [back,kept]
 |b0::h0,[],h,i=>by simp [back,kept]
 |b0::h0,q::p,[],i=>by cases q<;>simp [back,kept]
 |b0::h0,q::p,b::h,i=>by
  cases i with
  |zero=>cases q<;>cases b<;>simp [back,kept]
  |succ i=>
   have:=zoI (h0:=h0) (p:=p) (h:=h) i
   cases q<;>simp only[back,yL,kept]<;>exact this
theorem zh6:∀ {h0:SH} {p:List PB} {h:SH},(back h0 p h).length=h.length
 | [],p,h=>by simp [back]
 |b0::h0,[],h=>by simp [back]
 |b0::h0,q::p,[]=>by cases q<;>simp [back]
 |b0::h0,q::p,b::h=>by
  have:=zh6 (h0:=h0) (p:=p) (h:=h)
  cases q<;>simp only[back,yI,this]
section
variable {P:Program} {gl:GL} {ct:CT} {hk:wJ}
theorem zxc{X:Gst}(hr:RH X)(u:U)(n:Nat):RV ⟨X.h,X.Φ,X.σ++[none],X.sh++[.seq u [] n 0]⟩ (.gs X.sh.length n) .qC:=by
 refine⟨rfl,none,?_,fun u' l' k' md' hb'=>?_⟩
 ·show(X.σ++[_])[X.sh.length]?=_
  rw[<- hr.len,yu (yd _),vh];rfl
 ·have hb':(X.sh++[SB.seq u [] n 0])[X.sh.length]?=some (.seq u' l' k' md'):=hb'
  rw[yu (yd _),vh] at hb'
  cases hb'
  exact⟨yd _,fun _=>⟨rfl,rfl⟩⟩
theorem zbD{k:Nat×Option Nat}:∀ {pre:List (Nat×U)} {X:Gst} {st:SS} {ms:St},RH X->StR k X st ms->∃ Y,Stp X Y/\StR k Y (zpk pre st) ms
 | [],X,st,ms,hr,hs=>⟨X,.refl hr,hs⟩
 |(t,u)::l,X,st,ms,hr,hs=>by
  have S1:=Stp.zze hr (b:=.seq u [] (prN t) 0) (by simp [SB.md]) (fun _=>rfl)
  have hgs:=zxc hr u (prN t)
  rw[hs.sh] at hgs
  simp only[zpk]
  split
  ·split
   ·rename_i ht
    obtain⟨x,h1,h2⟩:=hs.env.get ht
    cases(show x=_ from h2)
    rw[hs.sh] at S1
    have henv:=(hs.env.le S1.le).set (t % 65536) hgs
    rw[wK h1] at henv
    obtain⟨Y,S2,hs2⟩:=zbD (pre:=l) (st:=⟨st.env.set (t % 65536) (.gs st.h.length (prN t)),st.h++[.seq u [] (prN t) 0]⟩) S1.hr ⟨henv,rfl,hs.h,hs.dk.step hr S1⟩
    exact⟨Y,S1.trans S2,hs2⟩
   ·exact zbD hr hs
  ·rename_i loc ht
   split
   ·rename_i cs mk hb
    split
    ·rename_i hc
     rw[hs.sh] at S1
     have hloc:=(ya.1 hb).1
     have hb1:(st.h++[SB.seq u [] (prN t) 0])[loc]?=some (.cells cs 0 mk):=by rw[yi hloc];exact hb
     have hso:loc<X.σ.length:=by rw[hr.len,hs.sh];exact hloc
     have ho1:(X.σ++[none])[loc]?=some X.σ[loc]:=by rw[yi hso];exact yb hso
     obtain⟨m,l',tt,e1,e2,e3⟩:=S1.hr.blk _ _ _ hb1 ho1
     have S2:Stp ⟨X.h,X.Φ,X.σ++[none],st.h++[.seq u [] (prN t) 0]⟩ ⟨X.h,X.Φ,X.σ++[none],(st.h++[SB.seq u [] (prN t) 0]).set loc (.cells (cs.set (t % 65536) (.gs st.h.length (prN t))) 0 mk)⟩:=by
      refine Stp.turn S1.hr (o':=X.σ[loc]) (b':=.cells (cs.set (t % 65536) (.gs st.h.length (prN t))) 0 mk) hb1 ho1 (by simp) (fun _ _ _=>rfl) (fun _ _ _=>.inl rfl) (yd _) (fun m=>⟨.inl,fun h=>h.elim id fun h=>by cases h.1⟩) (wK ho1).symm rfl (fun m v h=>?_) (fun m v h=>⟨v,h⟩) (fun u l k md h=>by cases h) (fun h=>absurd rfl h) (fun h=>by rcases h with h|h<;>cases h) (fun hle=>?_)
      ·exact⟨S1.hr.lt _ _ _ (h ▸ ho1),.inl ⟨v,h⟩⟩
      ·have hset:=(e3.le hle).set (t % 65536) (hgs.le hle)
       obtain⟨x,q1,q2⟩:=e3.get hc
       cases(show x=_ from q2)
       rw[wK q1] at hset
       exact⟨m,l',tt,e1,e2,hset⟩
     obtain⟨Y,S3,hs3⟩:=zbD (pre:=l) (st:=⟨st.env,(st.h++[SB.seq u [] (prN t) 0]).set loc (.cells (cs.set (t % 65536) (.gs st.h.length (prN t))) 0 mk)⟩) S2.hr ⟨hs.env.le (S1.trans S2).le,rfl,hs.h,hs.dk.step hr (S1.trans S2)⟩
     exact⟨Y,S1.trans (S2.trans S3),hs3⟩
    ·exact zbD hr hs
   ·exact zbD hr hs
structure Inv(X0:Gst)(p:PS)(Y:Gst):Prop where
 stp:Stp X0 Y
 kept:∀ (i:Nat),p.h[i]?=some .gone->i<X0.sh.length->Y.sh[i]?=some .gone/\Y.σ[i]?=X0.σ[i]? /\ ∀ m v,X0.σ[i]?=some (some (m,v))->Y.h[m]?=X0.h[m]? /\ (Y.Φ m->X0.Φ m)
theorem Inv.step{X0 Y Z:Gst}{p:PS}(h:Inv X0 p Y)(hr0:RH X0)(hS:Stp Y Z):Inv X0 p Z:=by
 refine⟨h.stp.trans hS,fun i hi hl=>?_⟩
 obtain⟨h1,h2,h3⟩:=h.kept i hi hl
 obtain⟨h4,h5⟩:=hS.fm.gone i h1
 refine⟨h4,h5.trans h2,fun m v hm=>?_⟩
 obtain⟨h6,h7⟩:=h3 m v hm
 have hmY:m<Y.h.length:=h.stp.hr.lt i m v (h2.trans hm)
 refine⟨(hS.fm.h m hmY fun i' v' b' hb' hs'=>?_).trans h6,fun hΦ=>?_⟩
 ·have:=h.stp.hr.inj _ _ _ _ _ hs' (h2.trans hm)
  subst this
  rw[h1] at hb';cases hb';simp [SB.md]
 ·rcases hS.fm.phi m hmY hΦ with h8|⟨i',v',b',h8,h9,h10⟩
  ·exact h7 h8
  ·have:=h.stp.hr.inj _ _ _ _ _ h9 (h2.trans hm)
   subst this
   rw[h1] at h8;cases h8;exact absurd rfl h10
theorem zgG{e:SX}{st:SS}{R:Type}{out:Nat->List Lf->Option R}{r:R}:∀ {outs:List (SX×PS)} {k:Nat},zn6 e st out outs k=some r->∃ j x q os,outs[j]?=some (x,q)/\zzw x e=true/\mS q st=some os/\out (k+j) os=some r
 | [],k,h=>by simp [zn6] at h
 |(x,q)::l,k,h=>by
  simp only[zn6] at h
  split at h
  ·rename_i hx
   split at h
   ·rename_i os hos;exact⟨0,x,q,os,rfl,hx,hos,h⟩
   ·obtain⟨j,x',q',os,h1,h2,h3,h4⟩:=zgG h
    exact⟨j+1,x',q',os,h1,h2,h3,by rwa [vn] at h4⟩
  ·obtain⟨j,x',q',os,h1,h2,h3,h4⟩:=zgG h
   exact⟨j+1,x',q',os,h1,h2,h3,by rwa [vn] at h4⟩
theorem iter(hct:zm9 P gl ct hk){n:Nat}{pl:Pl}{c:Code}(hpl:xx P gl hk pl c){p:PS}{outs:List (SX×PS)}{X0:Gst}(hr0:RH X0)(hg0:RGl P gl X0)(hlen:p.h.length=X0.sh.length)(hver:ztN p.h X0.sh=true)(hout:zmx X0.sh.length X0.sh outs=true)
  {O:Type} {G:Nat->List Lf->Option O} {od:Nat->List Lf->Option O} (h0:∀ ls,G 0 ls=none) (hs:∀ m ls o,G (m+1) ls=some o->round P gl ct n pl p outs c ls (G m) od=some o) {k0:Nat×Option Nat} (hlo:∀ m,k0.2=some m->Kp X0 m):
  ∀ (m:Nat) (ls:List Lf) (o:O),G m ls=some o->∀ (Y:Gst) (ms:St),Inv X0 p Y->StR k0 Y (iS p ls) ms ->
  ∃ k os x q Z me ms',od k os=some o/\outs[k]?=some (x,q)/\Stp X0 Z/\StR k0 Z ⟨(iS q os).env,back X0.sh p.h (iS q os).h⟩ ms'/\ExR Z x me/\Ev fun m=>jO P hk m (.loop c) ms=some (me,ms')
 |0,ls,o,h=>by rw[h0] at h;cases h
 |m+1,ls,o,h=>by
  intro Y ms hI hst
  have h:=hs m ls o h
  obtain⟨e,st',Y',me,ms',h1,S1,hs1,he1,ev1⟩:=(zcB hct n).1 pl c hpl k0 _ _ _ _ Y ms h hst hI.stp.hr (hg0.le hI.stp.le)
  have hI':=hI.step hr0 S1
  have key:zn6 e st' od outs 0=some o->(∀ m,jO P hk m c ms=some (me,ms')->jO P hk (m+1) (.loop c) ms=some (me,ms')) ->
    ∃ k os x q Z me ms',od k os=some o/\outs[k]?=some (x,q)/\Stp X0 Z/\StR k0 Z ⟨(iS q os).env,back X0.sh p.h (iS q os).h⟩ ms'/\ExR Z x me/\Ev fun m=>jO P hk m (.loop c) ms=some (me,ms'):=by
   intro h1 hrun
   obtain⟨j,x,q,os,h2,h3,h4,h5⟩:=zgG h1
   obtain⟨h6,h7⟩:=ziA hout j x q h2
   obtain⟨Z,S2,hs2,hh,hΦ,hσ,hg⟩:=weaken hr0 hI'.stp hs1 h4 h6 (zgg h7) (kept X0.sh p.h (iS q os).h) (fun i hi=>by
    unfold kept at hi
    split at hi
    ·rename_i a1 a2 a3
     have hl:=(ya.1 a1).1
     obtain⟨q1,q2,q3⟩:=hI'.kept i a2 hl
     exact⟨hl,q1,q2,q3⟩
    ·cases hi) hlo (zh:=back X0.sh p.h (iS q os).h) zh6 zoI
   refine⟨0+j,os,x,q,Z,me,ms',h5,by simpa using h2,S2,hs2,?_,Ev.succ (ev1.mono hrun)⟩
   cases x<;>cases e<;>first|cases h3|skip
   ·cases me<;>first|trivial|cases he1
   ·have:=zj h3
    subst this
    cases me<;>first|exact he1|cases he1
   ·cases me<;>first|exact zxh h3 he1|cases he1
  cases e with
  |normal=>
   cases me<;>first|cases he1|skip
   simp only at h1
   split at h1
   ·rename_i ls' hls
    obtain⟨Z,S2,hs2,hh,hΦ,hσ,hg⟩:=weaken hr0 hI'.stp hs1 hls (by omega) (zgg hver) (fun _=>false) (fun _ h=>by cases h) hlo (zh:=(iS p ls').h) rfl (fun i=>by simp)
    have hI2:Inv X0 p Z:=by
     refine⟨S2,fun i hi hl=>?_⟩
     obtain⟨q1,q2,q3⟩:=hI'.kept i hi hl
     refine⟨by rw[hs2.sh];exact hg i hi,?_,fun m v hm=>?_⟩
     ·rw[hσ,yW,if_pos (by omega)];exact q2
     ·rw[hh,hΦ];exact q3 m v hm
    obtain⟨k,os,x,q,Z',me2,ms2,h2,h2',S3,hs3,he3,ev2⟩:=iter hct hpl hr0 hg0 hlen hver hout h0 hs hlo m ls' o h1 Z ms' hI2 hs2
    exact⟨k,os,x,q,Z',me2,ms2,h2,h2',S3,hs3,he3,Ev.succ ((ev1.and ev2).mono fun n ⟨p,q⟩=>by simp only[jO,qB,p,q])⟩
   ·cases h1
  |ret=>
   cases me<;>first|cases he1|skip
   exact key h1 fun m p=>by simp only[jO,qB,p]
  |exit id=>
   cases me<;>first|cases he1|skip
   exact key h1 fun m p=>by simp only[jO,qB,p]
  |panic v=>
   cases me<;>first|cases he1|skip
   exact key h1 fun m p=>by simp only[jO,qB,p]
abbrev KC(O:Type):=(R:Type)->O->(Nat->List Lf->Option R)->Option R
theorem zp5(hct:zm9 P gl ct hk){n:Nat}{pl:Pl}{c:Code}(hpl:xx P gl hk pl c){pre:List (Nat×U)}{p:PS}{outs:List (SX×PS)}
  {O:Type} {G:Nat->List Lf->Option O} {od:Nat->List Lf->Option O} {kc:KC O} (h0:∀ ls,G 0 ls=none) (hs:∀ m ls o,G (m+1) ls=some o->round P gl ct n pl p outs c ls (G m) od=some o)
  (hk':∀ k os o,od k os=some o->∀ R κ,kc R o κ=κ k os) (N:Nat):zkd P gl hk (.loop c) (zp pre p outs fun R ls κ=>(G N ls).bind fun o=>kc R o κ):=by
 intro k0 R st K r X ms h hst hr hg
 unfold zp at h
 obtain⟨X0,S0,hs0⟩:=zbD (pre:=pre) hr hst
 generalize zpk pre st=st0 at h hs0
 split at h
 ·rename_i ls hls hok
  simp only[yc] at hok
  obtain⟨⟨h1,h2⟩,h3⟩:=hok
  have h1:=zj h1
  rw[<- hs0.sh] at h1 h2 h3
  obtain⟨o,ho,h4⟩:=yo.1 h
  obtain⟨Z,S2,hs2,hh,hΦ,hσ,hgn⟩:=weaken S0.hr (Stp.refl S0.hr) hs0 hls (by omega) (zgg h2) (fun _=>false) (fun _ h=>by cases h) (fun m e=>(hs0.dk.lo m e).2) (zh:=(iS p ls).h) rfl (fun i=>by simp)
  obtain⟨k,os,x,q,Z',me2,ms2,h5',h5,S3,hs3,he3,ev2⟩:=iter hct hpl S0.hr (hg.le S0.le) h1 h2 h3 h0 hs (fun m e=>(hs0.dk.lo m e).2) N ls o ho Z ms ⟨S2,fun i hi hl=>⟨by rw[hs2.sh];exact hgn i hi,by rw[hσ,yW,if_pos (by omega)],fun m v hm=>by rw[hh,hΦ];exact⟨rfl,id⟩⟩⟩ hs2
  rw[hk' k os o h5' R] at h4
  simp only[h5] at h4
  rw[hs0.sh] at hs3
  exact⟨x,_,Z',me2,ms2,h4,S0.trans S3,hs3,he3,ev2⟩
 ·cases h
def zAd(n:Nat)(a b:LF):LF:=fun R st K=>match ye st.h.length n with
 |true=>a R st K
 |false=>b R st K
theorem zvs{n:Nat}{a b:LF}{c:Code}(ha:zkd P gl hk c a)(hb:zkd P gl hk c b):zkd P gl hk c (zAd n a b):=by
 intro k0 R st K r X ms h hst hr hg
 unfold zAd at h
 split at h
 ·exact ha k0 R st K r X ms h hst hr hg
 ·exact hb k0 R st K r X ms h hst hr hg
end
end Go.Sx
namespace Go.Sx
open Go Go.Gx Go.Mx
variable [kF]
def zaE:List U->U
 | []=>.unit
 |u::l=>.pair u (zaE l)
def jx:(us:List U)->El (zaE us)->List SV
 | [],_=>[]
 |u::l,x=>zm4 u x.1::jx l x.2
def kD:(us:List U)->List SV->SH->Option (El (zaE us)×SH)
 | [],[],h=>some ((),h)
 |u::us,v::vs,h=>match zcn u v,dec u v.cells h with
  |true,some (x,[],h1)=>match kD us vs h1 with
   |some (y,h2)=>some ((x,y),h2)
   |none=>none
  |_,_=>none
 |_,_,_=>none
def unS(rs:List U)(v:SV):Option (List SV):=match rs with
 | [_]=>some [v]
 |_=>match v with
  |.tup vs=>some vs
  |_=>none
def zdp(rs:List U):SC->Option (El (zaE rs))
 |.ret v h=>match unS rs v with
  |some vs=>match kD rs vs h with
   |some (x,_)=>some x
   |none=>none
  |none=>none
 |.pan _ _=>none
def zP(us rs:List U)(F:El (zaE us)->Option (El (zaE rs))):CF:=fun R args h κ=>match kD us args h with
 |some (x,h')=>(F x).bind fun y=>κ (.ret (zpi (jx rs y)) h')
 |none=>none
theorem zka{h:zg}{Φ:Nat->Prop}{Z:Gst}(hh:Z.h=h)(hΦ:Z.Φ=Φ){u:U}{x:El u}{cs:List AV}(q:RE h Φ u x cs):(u.agg=true->RV Z (zm4 u x) (.agg cs))/\(u.agg=false->∀ c,cs=[c]->RV Z (zm4 u x) c):=by
 subst hh;subst hΦ
 cases u with
 |bool=>exact⟨(fun h=>by cases h),fun _ c e=>by cases(show cs=_ from q);cases e;rfl⟩
 |int k=>exact⟨(fun h=>by cases h),fun _ c e=>by cases(show cs=_ from q);cases e;rfl⟩
 |u8=>exact⟨(fun h=>by cases h),fun _ c e=>by cases(show cs=_ from q);cases e;rfl⟩
 |str=>exact⟨(fun h=>by cases h),fun _ c e=>by cases(show cs=_ from q);cases e;rfl⟩
 |sl u=>exact⟨(fun h=>by cases h),fun _ c e=>by obtain⟨y,e2,q⟩:=zww.1 q;rw[e] at e2;cases e2;exact q⟩
 |pair u v=>exact⟨fun _=>⟨cs,rfl,zak q⟩,fun h=>by cases h⟩
 |unit=>exact⟨fun _=>⟨cs,rfl,q⟩,fun h=>by cases h⟩
theorem kb:∀ (us:List U) {X:Gst} (hr:RH X) {vs:List SV} {xs:List AV} {x:El (zaE us)} {h':SH},RVs X vs xs->kD us vs X.sh=some (x,h') ->
  ∃ Y,Stp X Y/\Y.h=X.h/\Y.sh=h'/\∀ Z:Gst,Z.h=Y.h->(∀ m,Y.Φ m->Z.Φ m)->RVs Z (jx us x) xs
 | [],X,hr,vs,xs,x,h',hv,hd=>by
  cases vs with
  |nil=>simp only[kD] at hd;cases hd;cases(show xs=[] from hv);exact⟨X,.refl hr,rfl,rfl,fun Z _ _=>rfl⟩
  |cons=>simp [kD] at hd
 |u::us,X,hr,vs,xs,x,h',hv,hd=>by
  cases vs with
  |nil=>simp [kD] at hd
  |cons v vs=>
   obtain⟨a,t,rfl,q1,q2⟩:=hv
   simp only[kD] at hd
   split at hd
   ·rename_i y h1 hag hd1
    split at hd
    ·rename_i z h2 hd2
     cases hd
     have hc:∃ cs,RVs X v.cells cs/\((u.agg=true/\a=.agg cs)\/(u.agg=false/\cs=[a])):=by
      unfold zcn at hag
      split at hag
      ·obtain⟨l',rfl,q⟩:=q1;exact⟨l',q,.inl ⟨hag,rfl⟩⟩
      ·rename_i hn
       have e1:v.cells=[v]:=by cases v<;>first|rfl|exact absurd rfl (hn _)
       refine⟨[a],e1 ▸ .one q1,.inr ⟨by simpa using hag,rfl⟩⟩
     obtain⟨cs,hcs,hca⟩:=hc
     obtain⟨Y,c1,c2,S1,hh1,hs1,e1,hRE,hr2⟩:=zb0 u hr hcs hd1
     cases(show c2=[] from hr2)
     rw[yz] at e1
     subst e1
     rw[<- hs1] at hd2
     obtain⟨W,S2,hh2,hs2,hW⟩:=kb us S1.hr (q2.le S1.le) hd2
     refine⟨W,S1.trans S2,hh2.trans hh1,hs2,fun Z hZ hΦ=>?_⟩
     have hRE':RE Z.h Z.Φ u y cs:=hRE.le (fun m hm=>by rw[hZ,hh2]) (fun m hm=>hΦ m (S2.le.Φ m hm))
     obtain⟨k1,k2⟩:=zka (Z:=Z) rfl rfl hRE'
     refine⟨a,t,rfl,?_,hW Z hZ hΦ⟩
     rcases hca with⟨hag,rfl⟩|⟨hag,rfl⟩
     ·exact k1 hag
     ·exact k2 hag a rfl
    ·cases hd
   ·cases hd
section
variable {P:Program} {gl:GL} {ct:CT} {hk:wJ}
theorem zjv{f:FuncId}{us rs:List U}{F:El (zaE us)->Option (El (zaE rs))}{run:CF}(hrun:zhI P gl hk f run)
  (hF:∀ (Y:Gst) (x:El (zaE us)) (margs:List AV),RVs Y (jx us x) margs->∃ vs,RVs Y vs margs/\run _ vs [] (zdp rs)=F x):zhI P gl hk f (zP us rs F):=by
 intro R args κ r X margs h hargs hr hg
 unfold zP at h
 split at h
 ·rename_i x h' hd
  obtain⟨Y,S1,hh1,hs1,hA⟩:=kb us hr hargs hd
  cases hFx:F x with
  |none=>rw[hFx] at h;cases h
  |some y=>
   rw[hFx] at h
   have hY:RH Y.base:=⟨rfl,fun i j m v v' h=>by simp [Gst.base] at h,fun i m v h=>by simp [Gst.base] at h,S1.hr.Φlt,fun i b o h=>by simp [Gst.base] at h,fun i m v b h=>by simp [Gst.base] at h⟩
   have hgY:RGl P gl Y.base:=fun g cs hg'=>(hg.le S1.le) g cs hg'
   obtain⟨vs0,hvs0,hF0⟩:=hF Y.base x margs (hA Y.base rfl fun _ h=>h)
   rw[<- hF0] at hFx
   obtain⟨q,Z,mq,h1,S2,hcr,ev⟩:=hrun _ _ _ _ Y.base margs hFx hvs0 hY hgY
   cases q with
   |pan v sh=>cases h1
   |ret v sh=>
    cases mq with
    |pan=>cases hcr
    |ret xv hv'=>
     obtain⟨e1,e2,hv⟩:=hcr
     simp only[zdp] at h1
     split at h1
     ·rename_i vs hvs
      split at h1
      ·rename_i z h2 hd2
       cases h1
       rw[<- e1] at hd2
       have hun:∃ xs,RVs Z vs xs/\∀ W,(RVs W (jx rs y) xs->RV W (zpi (jx rs y)) xv):=by
        unfold unS at hvs
        split at hvs
        ·cases hvs
         exact⟨[xv],.one hv,fun W ⟨a,t,e,q,ht⟩=>by cases e;exact q⟩
        ·rename_i hrs
         split at hvs
         ·cases hvs
          obtain⟨l',rfl,q⟩:=hv
          refine⟨l',q,fun W hW=>?_⟩
          have:zpi (jx rs y)=.tup (jx rs y):=by
           match rs,y,hrs with
           | [],_,_=>rfl
           | [u],_,hrs=>exact absurd rfl (hrs u)
           |_::_::_,_,_=>rfl
          rw[this];exact⟨l',rfl,hW⟩
         ·cases hvs
       obtain⟨xs,hxs,hone⟩:=hun
       obtain⟨Z2,S3,hh3,hs3,hA3⟩:=kb rs S2.hr hxs hd2
       have S4:=S2.trans S3
       have hsame:∀ m,m<Y.h.length->Z2.h[m]?=Y.h[m]?:=fun m hm=>S4.fm.h m hm fun i v b hb=>by simp [Gst.base] at hb
       have hphi:∀ m,m<Y.h.length->Z2.Φ m->Y.Φ m:=fun m hm hΦ=>(S4.fm.phi m hm hΦ).elim id fun⟨i,v,b,hb,_⟩=>by simp [Gst.base] at hb
       have hle:Y.le ⟨Z2.h,Z2.Φ,Y.σ,Y.sh⟩:=⟨fun m hm=>hsame m (S1.hr.Φlt m hm),S4.le.Φ,yd _,fun _ _ v h=>⟨v,h⟩,fun _ _ l k md _ h=>⟨l,k,md,h,yd _,fun _=>⟨rfl,rfl⟩⟩,S1.hr.len⟩
       have S5:Stp Y ⟨Z2.h,Z2.Φ,Y.σ,Y.sh⟩:=by
        refine⟨hle,⟨S1.hr.len,S1.hr.inj,fun i m v h=>yp (S1.hr.lt i m v h) S4.fm.len,S4.hr.Φlt,fun i b o hb ho=>(S1.hr.blk i b o hb ho).le hle fun m v e=>hsame m (S1.hr.lt i m v (e ▸ ho)),fun i m v b hb ho hΦ=>S1.hr.own i m v b hb ho (hphi m (S1.hr.lt i m v ho) hΦ)⟩,
         ⟨S4.fm.len,fun m hm _=>hsame m hm,fun i b hb hm=>⟨b,hb,hm⟩,fun i m v h _=>⟨v,h⟩,fun i h=>⟨h,rfl⟩,fun m hm hΦ=>.inl (hphi m hm hΦ)⟩⟩
       refine⟨_,_,.ret xv hv',h,S1.trans S5,⟨hs1,?_,hone _ (hA3 _ rfl fun _ h=>h)⟩,?_⟩
       ·show Z2.h=hv';rw[hh3,e2]
       ·rw[<- hh1];exact ev
      ·cases h1
     ·cases h1
 ·cases h
theorem zju(hct:zm9 P gl ct hk){n:Nat}{pl:Pl}{f:FuncId}{us rs:List U}{F:El (zaE us)->Option (El (zaE rs))}(hpl:∀ fn b,P.funcs[f]?=some fn->fn.body=some b->xx P gl hk pl b)
  (hF:∀ (Y:Gst) (x:El (zaE us)) (margs:List AV),RVs Y (jx us x) margs->∃ vs,RVs Y vs margs/\zao P gl ct n pl f vs [] (zdp rs)=F x):zhI P gl hk f (zP us rs F):=zjv (run:=fun R args h κ=>zao P gl ct (R:=R) n pl f args h κ) ((zcB hct n).2.2.1 pl f hpl) hF
theorem zq3(hct:zm9 P gl ct hk){n:Nat}{pl:Pl}{f:FuncId}{us rs:List U}{F:El (zaE us)->Option (El (zaE rs))}(hpl:∀ fn b,P.funcs[f]?=some fn->fn.body=some b->xx P gl hk pl b)
  (hF:∀ x,zao P gl ct n pl f (jx us x) [] (zdp rs)=F x):zhI P gl hk f (zP us rs F):=zju hct hpl fun Y x margs h=>⟨_,h,hF x⟩
theorem zkn(hct:zm9 P gl ct hk){n:Nat}{pl:Pl}{f:FuncId}{u:U}{rs:List U}{F:List (El u)->Option (El (zaE rs))}(hpl:∀ fn b,P.funcs[f]?=some fn->fn.body=some b->xx P gl hk pl b)
  (h1:∀ l,zao P gl ct n pl f [.nsl u l] [] (zdp rs)=F l) (h2:zao P gl ct n pl f [.a .qC] [] (zdp rs)=F []):zhI P gl hk f (zP [.sl u] rs fun x=>F x.1):=zju hct hpl fun Y x margs ⟨a,t,e,q,ht⟩=>by
 obtain⟨l,⟨⟩⟩:=x
 rcases(show RSl Y.h Y.Φ false u l a from q) with⟨rfl,rfl⟩|h
 ·exact⟨[.a .qC],⟨_,t,e,rfl,ht⟩,h2⟩
 ·exact⟨[.nsl u l],⟨_,t,e,h,ht⟩,h1 l⟩
end
end Go.Sx
namespace Go.Mx
open Go Go.Gx
def AV.zhC:AV->Bool
 |.bool _|.int _ _|.str _|.zhy|.qC|.zhx|.zlr|.zer|.any|.opq=>true
 |_=>false
def AV.zAn:AV->Bool
 |.tup l=>l.all AV.zhC
 |v=>v.zhC
theorem V.zhC{G G':Gh}{v:AV}{u:Value}(hs:v.zhC=true)(h:V G v u):V G' v u:=by
 cases h<;>first|(cases hs;done)|constructor
theorem VL.zhC{G G':Gh}:∀ {l:List AV} {us:List Value},l.all AV.zhC=true->VL G l us->VL G' l us
 | [],us,_,h=>by cases h;exact .nil
 |x::l,us,hs,h=>by
  cases h with
  |cons h1 h2=>
   simp only[yZ,yc] at hs
   exact .cons (V.zhC hs.1 h1) (VL.zhC hs.2 h2)
theorem V.zAn{G G':Gh}{v:AV}{u:Value}(hs:v.zAn=true)(h:V G v u):V G' v u:=by
 cases v with
 |tup l=>cases h with|tup h=>exact .tup (VL.zhC hs h)
 |_=>exact V.zhC hs h
structure Laid(P:Program)(hgl:zg)(Gg:Gh)(B:Nat)(W0:World):Prop where
 hr:HR Gg B hgl W0
 low:∀ loc v r,Gg.at loc v=some r->r.b<B
 g:∀ g,g<P.globals.size->∃ r,Gg.at g 0=some r/\r.b=g/\r.lo=0/\r.sh=0
def HOK(P:Program)(hgl:zg)(Gg:Gh)(hk:wJ):Prop:=∀ B W0,Laid P hgl Gg B W0->zhY P B W0 hk
section
variable {P:Program} {hgl:zg} {Gg:Gh} {B:Nat} {W0 w:World}
theorem Laid.at(h:Laid P hgl Gg B W0)(hl:∀ b,b<B->w.heap[b]?=W0.heap[b]?)(hs:B<=w.heap.size){B':Nat}(hB:B<=B')(hs':B'<=w.heap.size):Laid P hgl Gg B' w:=by
 refine⟨⟨h.hr.len,fun loc b vs hb hg=>(h.hr.blk loc b vs hb hg).mono (Gh.le_refl _) fun v r hv=>hl _ (h.low loc v r (Gh.zdH hg hv)),fun loc v r hat=>yp (h.low loc v r hat) hs,fun loc v r b hat hb=>?_,fun l1 l2 v1 v2 r1 r2 h1 _ hB1 _=>?_,hs'⟩,fun loc v r hat=>yp (h.low loc v r hat) hB,h.g⟩
 ·have h1:=h.hr.own loc v r b hat hb
  have h2:=h.low loc v r hat
  exact⟨fun e=>by have:=h1.1 e;omega,fun e=>by omega⟩
 ·have:=h.low l1 v1 r1 h1;omega
theorem zh9(hmo:P.follows .mixedOrders=true)(hng:zpI P){hk:wJ}(hh:HOK P hgl Gg hk)(hL:Laid P hgl Gg B W0){n f:Nat}{args:List AV}{h h':zg}{v:AV}
  (hc:zfQ P (jO P hk n) f args hgl=some (.ret v h')) (ha:args.all AV.zhC=true) (hs:v.zAn=true):zi4 P B W0 f args h (.ret v h):=by
 intro G us w hx hr hg
 left
 have hL':Laid P hgl Gg w.heap.size w:=hL.at hg.low hr.base hr.base (yd _)
 have hg':zgm P w.heap.size w Gg w:=⟨hL.g,fun _ _=>rfl⟩
 obtain⟨h1,h2⟩:=ze4 hng (zcV hmo hng (hh _ _ hL') n).1 (zcV hmo hng (hh _ _ hL') n).2.2 hc (VL.zhC ha hx) hL'.hr hg'
 refine⟨h1.mono fun e w' hcr=>?_,h2⟩
 obtain⟨G',hS,u,hv,rfl⟩:=hcr
 refine⟨G,Step.grow hr hS.fr.size (fun b hb=>hS.fr.low b hb fun loc v r hat hB e=>?_) hS.fr.os hS.fr.tape hS.fr.output,u,V.zAn hs hv,rfl⟩
 have:=hL'.low _ _ _ hat;omega
theorem zkC(tab:List (FuncId×XK))(h:∀ f k,(f,k) ∈ tab->XFn P f k):HOK P hgl Gg (zkV tab):=fun B W0 _=>zw6 h B W0
def zM(hk:wJ)(f:FuncId)(g:List AV->zg->Option CR):wJ:=fun k=>match ye k f with
 |true=>some g
 |false=>hk k
theorem zcy{hk:wJ}(hh:HOK P hgl Gg hk){f:FuncId}{g:List AV->zg->Option CR}(hg:∀ B W0,Laid P hgl Gg B W0->∀ args h r,g args h=some r->zi4 P B W0 f args h r):HOK P hgl Gg (zM hk f g):=by
 intro B W0 hL f' g' hg' args h r hr
 unfold zM at hg'
 cases hb:ye f' f with
 |true=>
  rw[hb] at hg'
  cases hg'
  have:=yg hb
  subst this
  exact hg B W0 hL args h r hr
 |false=>rw[hb] at hg';exact hh B W0 hL f' g' hg' args h r hr
end
section
variable {P:Program} {G:Gh} {B:Nat} {h:zg} {w:World}
theorem HR.zzd{blk:Blk}{r:Ver}(hr:HR G B h w)(ho:blk.own=false)(hlt:r.b<B)(hB:zqB (G++[[r]]) w blk [r]):HR (G++[[r]]) B (h++[blk]) w:=by
 have hone:∀ (v:Nat) (r':Ver),[r][v]?=some r'->r'=r:=by
  intro v r' hv
  cases v with
  |zero=>simp at hv;exact hv.symm
  |succ v=>simp at hv
 refine⟨by rw[Arr.ql,vm,hr.len];rfl,?_,?_,?_,?_,hr.base⟩
 ·intro loc b vs' hl hg
  by_cases hlt:loc<h.length
  ·rw[Arr.j7 hlt] at hl
   rw[yi (by rw[hr.len];exact hlt)] at hg
   exact(hr.blk loc b vs' hl hg).mono (Gh.zd0 _ _) fun v r hv=>rfl
  ·have hle:loc=h.length:=by
    have:=Arr.lt hl;rw[Arr.ql] at this;simp at this;omega
   subst hle
   rw[Arr.z7 (by omega)] at hl
   rw[yu (by rw[hr.len];omega),hr.len] at hg
   simp at hl hg
   subst hl;subst hg;exact hB
 ·intro loc v r' hat
  rcases zdb hat with hat|⟨_,hat⟩
  ·exact hr.lt _ _ _ hat
  ·rw[hone _ _ hat];exact yp hlt hr.base
 ·intro loc v r' b hat hl
  rcases zdb hat with hat|⟨hl',hat'⟩
  ·obtain⟨b',_,hb',_⟩:=hr.get hat
   have hlt:=Arr.lt hb'
   rw[Arr.j7 hlt] at hl
   exact hr.own _ _ _ _ hat hl
  ·rw[hl',hr.len,Arr.z7 (by omega)] at hl
   simp at hl;subst hl
   rw[ho,hone _ _ hat']
   exact Iff.intro (fun e=>by cases e) (fun e=>by omega)
 ·intro l1 l2 v1 v2 r1 r2 ha1 ha2 hB1 he
  rcases zdb ha1 with h1|⟨e1,h1⟩<;>rcases zdb ha2 with h2|⟨e2,h2⟩
  ·exact hr.apart _ _ _ _ _ _ h1 h2 hB1 he
  ·rw[hone _ _ h2] at he;omega
  ·rw[hone _ _ h1] at hB1;omega
  ·exact e1.trans e2.symm
theorem HR.zgH{xs:List AV}{cs:List Value}{a:Addr}{c:Array Value}{T:TypeId}{fr:Nat×Nat}(hr:HR G B h w)(hlt:a.block<B)(hc:w.heap[a.block]?=some (.cells c T fr))(hx:VL G xs cs)
  (hcs:∀ (j:Nat) (u:Value),cs[j]?=some u->c[j+a.off]?=some u) (hsz:xs.length+a.off<=c.size):
  HR (G++[[⟨a.block,0,xs.length,c.size,a.off⟩]]) B (h++[Blk.lay xs]) w:=by
 refine hr.zzd rfl hlt (.inr ⟨_,rfl,rfl,rfl,c,T,fr,hc,rfl,hsz,fun p hp=>?_⟩)
 have hp':p<xs.length:=hp
 obtain⟨u,e1,e2⟩:=hx.get (yb hp')
 exact⟨_,u,yb hp',hcs p u e1,e2.le (Gh.zd0 _ _)⟩
end
def zjI{α:Type}(f:α->zg->Option (List AV×zg)):List α->zg->Option (List AV×zg)
 | [],h=>some ([],h)
 |d::l,h=>match f d h with
  |some (xs,h1)=>match zjI f l h1 with
   |some (ys,h2)=>some (xs++ys,h2)
   |none=>none
  |none=>none
def flush(P:Program):List Field->Nat->Nat->Bool
 | [],o,n=>ye o n
 |f::l,o,n=>ye f.offset o&&flush P l (o+P.cellsOf f.type) n
def zvJ{H:Type}(P:Program):Nat->TypeId->DataW H->zg->Option (List AV×zg)
 |0,_,_,_=>none
 |n+1,t,d,h=>match P.underlying t,d with
  |some .bool,.lit (.bool b)=>some ([.bool b],h)
  |some (.int _),.lit (.int k m)=>some ([.int k m],h)
  |some .string,.lit (.string l)=>some ([.str l],h)
  |some (.pointer _),.nil=>some ([.zhy],h)
  |some (.pointer e),.ptr d=>match zvJ P n e d h with
   |some (x::xs,h')=>some ([.ptr h'.length 0 0 (xs.length+1)],h'++[Blk.lay (x::xs)])
   |_=>none
  |some (.slice _),.nil=>some ([.qC],h)
  |some (.slice e),.slice (d::l) _=>match zjI (zvJ P n e) (d::l) h with
   |some (x::xs,h')=>some ([.sl h'.length 0 (l.length+1) (P.cellsOf e) 0 false],h'++[Blk.lay (x::xs)])
   |_=>none
  |some (.slice e),.slice [] _=>if yQ 0 (P.cellsOf e)=true then some ([.sl h.length 0 0 (P.cellsOf e) 0 false],h++[Blk.lay []]) else none
  |some (.struct fs),.agg ds=>if flush P fs.toList 0 (P.cellsOf t)=true/\ds.length=fs.size then zjI (fun p=>zvJ P n p.1.type p.2) (fs.toList.zip ds) h else none
  |some (.array m e),.agg ds=>if m*P.cellsOf e=P.cellsOf t/\ds.length=m then zjI (zvJ P n e) ds h else none
  |some (.interface _),.nil=>some ([.zer],h)
  |some (.interface _),.iface _ _=>some ([.opq],h)
  |_,_=>none
section
variable {P:Program} {B:Nat} {w:World}
theorem mapM_some{α β:Type}{f:α->Option β}:∀ {l:List α} {r:List β},l.mapM f=some r->r.length=l.length/\∀ (i:Nat) (a:α),l[i]?=some a->∃ b,r[i]?=some b/\f a=some b
 | [],r,h=>by simp at h;subst h;simp
 |x::l,r,h=>by
  simp only[List.mapM_cons,Option.bind_eq_bind,yo,Option.pure_def,yx] at h
  obtain⟨b,hb,r',hr',rfl⟩:=h
  obtain⟨h1,h2⟩:=mapM_some hr'
  refine⟨by simp [h1],fun i a ha=>?_⟩
  cases i with
  |zero=>simp at ha;subst ha;exact⟨b,rfl,hb⟩
  |succ i=>simpa using h2 i a (by simpa using ha)
theorem zcK{base n:Nat}{a:Addr}{cs:List Value}(h:w.cells? base a n=some cs):cs.length=n/\∀ (j:Nat) (u:Value),cs[j]?=some u->w.cell? (a.add j)=some u:=by
 unfold World.cells? at h
 split at h
 ·obtain⟨h1,h2⟩:=mapM_some h
  rw[yP] at h1
  refine⟨h1,fun j u hu=>?_⟩
  have hj:j<n:=by rw[<- h1];exact(ya.1 hu).1
  obtain⟨b,e1,e2⟩:=h2 j j (by simp [hj])
  rw[hu] at e1;cases e1
  exact e2
 ·cases h
theorem zjs{a:Addr}{u:Value}(h:w.cell? a=some u):∃ c T fr,w.heap[a.block]?=some (.cells c T fr)/\a.spot=none/\c[a.off]?=some u:=by
 unfold World.cell? at h
 split at h
 ·rename_i c T fr hb
  split at h
  ·cases h
  ·rename_i hs
   exact⟨c,T,fr,hb,by cases hsp:a.spot<;>simp_all,h⟩
 ·cases h
theorem zaJ(a:Addr)(j:Nat):(a.add j).block=a.block/\(a.add j).off=a.off+j:=by
 unfold Addr.add
 split
 ·subst_vars;exact⟨rfl,rfl⟩
 ·exact⟨rfl,rfl⟩
theorem zbZ{base n:Nat}{a:Addr}{cs:List Value}(h:w.cells? base a n=some cs)(hn:0<n):∃ c T fr,w.heap[a.block]?=some (.cells c T fr)/\a.spot=none/\(∀ (j:Nat) (u:Value),cs[j]?=some u->c[j+a.off]?=some u)/\n+a.off<=c.size:=by
 obtain⟨h1,h2⟩:=zcK h
 have h0:=h2 0 _ (yb (by omega))
 obtain⟨c,T,fr,e1,e2,e3⟩:=zjs h0
 have ha0:a.add 0=a:=by simp [Addr.add]
 rw[ha0] at e1 e2
 have hall:∀ (j:Nat) (u:Value),cs[j]?=some u->c[j+a.off]?=some u:=by
  intro j u hu
  obtain⟨c',T',fr',f1,_,f3⟩:=zjs (h2 j u hu)
  rw[(zaJ a j).1,e1] at f1
  cases f1
  rw[(zaJ a j).2,Nat.add_comm] at f3
  exact f3
 refine⟨c,T,fr,e1,e2,hall,?_⟩
 have hl:=hall (n-1) _ (yb (by omega))
 have:=(yj.1 hl).1
 omega
def Gh.ext(G G':Gh):Prop:=∃ E,G'=G++E
theorem Gh.jY(G:Gh):G.ext G:=⟨[],by simp⟩
theorem Gh.ext.trans{a b c:Gh}(h:a.ext b)(k:b.ext c):a.ext c:=by
 obtain⟨E,rfl⟩:=h
 obtain⟨F,rfl⟩:=k
 exact⟨E++F,by rw[yr]⟩
theorem Gh.ext.le{a b:Gh}(h:a.ext b):a.le b:=by
 obtain⟨E,rfl⟩:=h
 intro loc v r hat
 unfold Gh.at at *
 cases hg:a[loc]? with
 |none=>rw[hg] at hat;cases hat
 |some vs=>rw[hg] at hat;rw[yi (ya.1 hg).1,hg];exact hat
theorem Gh.ext.get{a b:Gh}(h:a.ext b){loc:Nat}{vs:List Ver}(hg:a[loc]?=some vs):b[loc]?=some vs:=by
 obtain⟨E,rfl⟩:=h
 rw[yi (ya.1 hg).1];exact hg
theorem Gh.zei(G:Gh)(vs:List Ver):G.ext (G++[vs]):=⟨[vs],rfl⟩
theorem zco{α:Type}{f:α->zg->Option (List AV×zg)}{Q:α->List Value->Prop}
  (hf:∀ d h xs h' G,HR G B h w->f d h=some (xs,h')->∀ cs,Q d cs->∃ G',HR G' B h' w/\G.ext G'/\VL G' xs cs):
  ∀ {ds:List α} {h h':zg} {xs:List AV} {G:Gh} {css:List (List Value)},HR G B h w->zjI f ds h=some (xs,h')->css.length=ds.length->(∀ (i:Nat) (d:α) (cs:List Value),ds[i]?=some d->css[i]?=some cs->Q d cs) ->
   ∃ G',HR G' B h' w/\G.ext G'/\VL G' xs css.flatten
 | [],h,h',xs,G,css,hr,hl,hlen,_=>by
  cases hl
  have:css=[]:=yE hlen
  subst this
  exact⟨G,hr,Gh.jY _,.nil⟩
 |d::ds,h,h',xs,G,css,hr,hl,hlen,hq=>by
  cases css with
  |nil=>simp at hlen
  |cons cs css=>
   unfold zjI at hl
   split at hl
   ·rename_i ys h1 h2
    split at hl
    ·rename_i zs h3 h4
     cases hl
     obtain⟨G1,r1,l1,v1⟩:=hf d h ys h1 G hr h2 cs (hq 0 d cs rfl rfl)
     obtain⟨G2,r2,l2,v2⟩:=zco hf (css:=css) r1 h4 (by simpa using hlen) (fun i d' cs' e1 e2=>hq (i+1) d' cs' (by simpa using e1) (by simpa using e2))
     exact⟨G2,r2,l1.trans l2,(v1.le l2.le).append v2⟩
    ·cases hl
   ·cases hl
theorem znA{c:Array Value}{sz:Nat}:∀ {css:List (List Value)} {o:Nat},(∀ (i:Nat) (cs:List Value),css[i]?=some cs->cs.length=sz/\∀ (k:Nat) (u:Value),cs[k]?=some u->c[k+(o+i*sz)]?=some u) ->
  css.flatten.length=css.length*sz/\∀ (j:Nat) (u:Value),css.flatten[j]?=some u->c[j+o]?=some u
 | [],o,_=>by simp
 |cs::css,o,h=>by
  obtain⟨h1,h2⟩:=h 0 cs rfl
  obtain⟨h3,h4⟩:=znA (css:=css) (o:=o+sz) (c:=c) (sz:=sz) (fun i cs' hi=>by
   obtain⟨q1,q2⟩:=h (i+1) cs' (by simpa using hi)
   refine⟨q1,fun k u hu=>?_⟩
   have:=q2 k u hu
   rwa [show o+(i+1)*sz=o+sz+i*sz from by rw[yH];omega] at this)
  refine⟨by simp only[yG,vm,yI,h1,h3,yH];omega,fun j u hu=>?_⟩
  rw[yG,List.getElem?_append] at hu
  split at hu
  ·have:=h2 j u hu
   simpa using this
  ·rename_i hge
   have:=h4 _ u hu
   rwa [h1,show j-sz+(o+sz)=j+o from by omega] at this
theorem zgr{cs:List Value}:∀ {l:List Field} {o n:Nat},flush P l o n=true->cs.length=n->o<=n->(l.map fun f=>(cs.drop f.offset).take (P.cellsOf f.type)).flatten=cs.drop o
 | [],o,n,h,hl,ho=>by
  have:=yg h
  simp;omega
 |f::l,o,n,h,hl,ho=>by
  simp only[flush,yc] at h
  have he:=yg h.1
  by_cases hle:o+P.cellsOf f.type<=n
  ·have ih:=zgr (cs:=cs) h.2 hl hle
   simp only[vT,yG]
   rw[ih,he,<- vu]
   exact yT _ _
  ·exfalso
   have:∀ (l:List Field) (o:Nat),flush P l o n=true->o<=n:=by
    intro l
    induction l with
    |nil=>intro o h;have:=yg h;omega
    |cons f l ih=>intro o h;simp only[flush,yc] at h;have:=ih _ h.2;omega
   exact hle (this l _ h.2)
theorem trod_array{H:Type}{enc:TypeId×Value->H}{base:Nat}{sp:Nat->Bool}{held:Bool}{fuel k:Nat}{t e:TypeId}{cs:List Value}{x:DataW H×List MemPlace}(ht:P.underlying t=some (.array k e))(h:DataW.trod enc P w base sp held fuel t cs=some x):
  ∃ (xs:List (DataW H×List MemPlace)) (n:Nat),fuel=n+1/\x.1=.agg (xs.map (·.1))/\cs.length=P.cellsOf t/\xs.length=k/\∀ i,i<k->DataW.trod enc P w base sp held n e ((cs.drop (i*P.cellsOf e)).take (P.cellsOf e))=xs[i]?:=by
 cases fuel with
 |zero=>simp [DataW.trod] at h
 |succ n=>
  unfold DataW.trod at h
  rw[ht] at h
  simp only at h
  split at h
  ·rename_i hlen
   obtain⟨xs,h1,h2⟩:=yh.1 h
   obtain⟨h3,h4⟩:=mapM_some h1
   rw[yP] at h3
   subst h2
   refine⟨xs,n,rfl,rfl,hlen,h3,fun i hi=>?_⟩
   obtain⟨b,e1,e2⟩:=h4 i i (by simp [hi])
   rw[e2,e1]
  ·cases h
theorem zjq{H:Type}{enc:TypeId×Value->H}{base:Nat}{sp:Nat->Bool}{held:Bool}{fuel:Nat}{t:TypeId}{ms:Array (String×TypeId)}{cs:List Value}{p:List MemPlace}(ht:P.underlying t=some (.interface ms))(h:DataW.trod enc P w base sp held fuel t cs=some (.nil,p)):cs=[.nilIface]:=by
 cases fuel with
 |zero=>simp [DataW.trod] at h
 |succ n=>
  unfold DataW.trod at h
  rw[ht] at h
  split at h<;>first|(cases h;done)|skip
  all_goals first
   |rfl
   |(exfalso;simp_all;done)
   |(exfalso;split at h<;>simp_all;done)
theorem ziT{H:Type}{enc:TypeId×Value->H}{base:Nat}{sp:Nat->Bool}{held:Bool}{fuel:Nat}{t:TypeId}{ms:Array (String×TypeId)}{cs:List Value}{p:List MemPlace}{nm:String}{d:DataW H}(ht:P.underlying t=some (.interface ms))(h:DataW.trod enc P w base sp held fuel t cs=some (.iface nm d,p)):∃ u v,cs=[.iface u v]:=by
 cases fuel with
 |zero=>simp [DataW.trod] at h
 |succ n=>
  match cs with
  | []=>simp [DataW.trod,ht] at h
  |_::_::_=>simp [DataW.trod,ht] at h
  | [c]=>
   cases c<;>simp [DataW.trod,ht] at h
   exact⟨_,_,rfl⟩
theorem zjr{cs:List Value}{sz:Nat}:∀ {k o:Nat},cs.length=o+k*sz->((yy k).map fun i=>(cs.drop (o+i*sz)).take sz).flatten=cs.drop o
 |0,o,h=>by simp;omega
 |k+1,o,h=>by
  have ih:=zjr (cs:=cs) (sz:=sz) (k:=k) (o:=o+sz) (by rw[h,yH];omega)
  rw[List.range_succ_eq_map,vT,yG,vq]
  have e:((fun i=>(cs.drop (o+i*sz)).take sz) ∘ Nat.succ)=fun i=>(cs.drop (o+sz+i*sz)).take sz:=by
   funext i
   simp only[Function.comp]
   rw[show o+i.succ*sz=o+sz+i*sz from by rw[Nat.succ_eq_add_one,yH];omega]
  rw[e,ih,vU,vB,<- vu]
  exact yT _ _
theorem zl4{H:Type}{enc:TypeId×Value->H}{base:Nat}{held:Bool}(hB:B=w.heap.size)(hz:∃ (b0:Nat) (c:Array Value) (T:TypeId) (fr:Nat×Nat),w.heap[b0]?=some (.cells c T fr)):∀ (m:Nat) (t:TypeId) (d:DataW H) (h:zg) (xs:List AV) (h':zg) (G:Gh),HR G B h w->zvJ P m t d h=some (xs,h') ->
  ∀ cs,(∃ n p,DataW.trod enc P w base (fun _=>true) held n t cs=some (d,p))->∃ G',HR G' B h' w/\G.ext G'/\VL G' xs cs
 |0,t,d,h,xs,h',G,hr,hl,cs,_=>by simp [zvJ] at hl
 |m+1,t,d,h,xs,h',G,hr,hl,cs,⟨n,p,ht⟩=>by
  have ih:=fun t d h xs h' G=>zl4 (enc:=enc) (base:=base) (held:=held) hB hz m t d h xs h' G
  unfold zvJ at hl
  split at hl
  ·rename_i b hu
   cases hl
   obtain⟨b',rfl,e⟩:=DataW.trod_bool hu ht
   cases e
   exact⟨G,hr,Gh.jY _,.cons (.bool _) .nil⟩
  ·rename_i k0 k z hu
   cases hl
   obtain⟨b',rfl,e,_⟩:=DataW.trod_int hu ht
   cases e
   exact⟨G,hr,Gh.jY _,.cons (.int _ _) .nil⟩
  ·rename_i l hu
   cases hl
   obtain⟨b',rfl,e,_⟩:=DataW.trod_string hu ht
   cases e
   exact⟨G,hr,Gh.jY _,.cons (.str b'.data.toList) .nil⟩
  ·rename_i e hu
   cases hl
   rcases DataW.trod_pointer hu ht with⟨rfl,_⟩|⟨a,cs',y,n',rfl,rfl,he,_⟩
   ·exact⟨G,hr,Gh.jY _,.cons .zhy .nil⟩
   ·cases he
  ·rename_i e d' hu
   split at hl
   ·rename_i x xs h1 hl1
    cases hl
    rcases DataW.trod_pointer hu ht with⟨rfl,he⟩|⟨a,cs',y,n',rfl,rfl,he,hc,hy⟩
    ·cases he
    ·cases he
     obtain⟨G1,r1,l1,v1⟩:=ih e _ h _ _ G hr hl1 cs' ⟨n',_,hy⟩
     have hlen:=v1.length
     have hcl:=(zcK hc).1
     simp only[yI] at hlen
     obtain⟨c,T,fr,q1,q2,q3,q4⟩:=zbZ hc (by omega)
     have hlt:a.block<B:=by rw[hB];exact(yj.1 q1).1
     have hr2:=r1.zgH hlt q1 v1 q3 (by simp only[yI];omega)
     refine⟨_,hr2,l1.trans (Gh.zei _ _),.cons ?_ .nil⟩
     have hV:=V.ptr (G:=G1++[[⟨a.block,0,(x::xs).length,c.size,a.off⟩]]) (loc:=h1.length) (off:=0) (ver:=0) (lim:=xs.length+1) (r:=⟨a.block,0,(x::xs).length,c.size,a.off⟩) (by rw[<- r1.len,zbX];rfl) (yd _) (yd _)
     obtain⟨ab,ao,as1⟩:=a
     simp only at q2
     subst q2
     simpa using hV
   ·cases hl
  ·rename_i e hu
   cases hl
   rcases DataW.trod_slice hu ht with⟨rfl,_⟩|⟨a,len,cap,el,rs,n',rfl,rfl,he,_⟩
   ·exact⟨G,hr,Gh.jY _,.cons .qC .nil⟩
   ·cases he
  ·rename_i e d0 l sp hu
   split at hl
   ·rename_i x xs h1 hl1
    cases hl
    rcases DataW.trod_slice hu ht with⟨rfl,he⟩|⟨a,len,cap,el,rs,n',rfl,rfl,he,hba,hlc,hcm,hel,hee,hsp,_⟩
    ·cases he
    ·simp only[vL,DataW.slice.injEq] at he
     obtain⟨⟨he1,he2⟩,_⟩:=he
     have hln:len=l.length+1:=by rw[<- hel,<- show(el.map (·.1)).length=el.length from yA _,<- he1];rfl
     obtain⟨hrl,hrr⟩:=hsp rfl
     generalize hsz:P.cellsOf e=sz at *
     have hcell:∀ i,i<cap->∃ cs',w.cells? base (a.add (i*sz)) sz=some cs':=by
      intro i hi
      by_cases hil:i<len
      ·have h0:=hee i hil
       rw[yb (by omega)] at h0
       obtain⟨cs',e1,_⟩:=yo.1 h0
       exact⟨cs',e1⟩
      ·have h0:=hrr (i-len) (by omega)
       rw[yb (by omega),show len+(i-len)=i from by omega] at h0
       obtain⟨cs',e1,_⟩:=yo.1 h0
       exact⟨cs',e1⟩
     obtain⟨G1,r1,l1,v1⟩:=zco (Q:=fun(d:DataW H) cs=>∃ n q,DataW.trod enc P w base (fun _=>true) held n e cs=some (d,q)) (fun d h xs h' G hr hl cs hq=>ih e d h xs h' G hr hl cs hq) hr hl1
      (css:=(yy len).map fun i=>(w.cells? base (a.add (i*sz)) sz).getD []) (by simp [hln]) (fun i d cs' e1 e2=>by
       rw[yf,yh] at e2
       obtain⟨j,e3,rfl⟩:=e2
       have hik:i<len:=by
        have:=(ya.1 e1).1
        simp only[yI] at this
        omega
       rw[yq hik] at e3
       cases e3
       rw[he1,yf,yh] at e1
       obtain⟨y,e6,e7⟩:=e1
       have h0:=hee i hik
       rw[e6] at h0
       obtain⟨cs2,f1,f2⟩:=yo.1 h0
       rw[f1]
       exact⟨n',y.2,by rw[<- e7];exact f2⟩)
     have hvl:=v1.length
     have hpos:0<sz:=by
      rcases vo sz with h0|h0
      ·exfalso
       have:((yy len).map fun i=>(w.cells? base (a.add (i*sz)) sz).getD []).flatten=[]:=by
        rw[List.flatten_eq_nil_iff]
        intro q hq
        obtain⟨i,hi,rfl⟩:=vA.1 hq
        obtain⟨cs',e1⟩:=hcell i (by have:=List.mem_range.1 hi;omega)
        rw[e1]
        have:=(zcK e1).1
        exact yE (by show cs'.length=0;omega)
       rw[this] at hvl
       simp at hvl
      ·exact h0
     obtain⟨c0,ec0⟩:=hcell 0 (by omega)
     obtain⟨c,T,fr,q1,q2,_,_⟩:=zbZ ec0 hpos
     rw[(zaJ a _).1] at q1
     have ha0:a.add (0*sz)=a:=by simp [Addr.add]
     rw[ha0] at q2
     have hrow:∀ i,i<cap->∀ cs',w.cells? base (a.add (i*sz)) sz=some cs'->cs'.length=sz/\(∀ (k:Nat) (u:Value),cs'[k]?=some u->c[k+(a.off+i*sz)]?=some u)/\sz+(a.off+i*sz)<=c.size:=by
      intro i hi cs' ec
      obtain⟨c2,T2,fr2,g1,_,g3,g4⟩:=zbZ ec hpos
      rw[(zaJ a _).1,q1] at g1
      cases g1
      rw[(zaJ a _).2] at g3 g4
      exact⟨(zcK ec).1,g3,g4⟩
     obtain⟨fl1,fl2⟩:=znA (c:=c) (sz:=sz) (o:=a.off) (css:=(yy len).map fun i=>(w.cells? base (a.add (i*sz)) sz).getD []) (fun i cs' e2=>by
      rw[yf,yh] at e2
      obtain⟨j,e3,rfl⟩:=e2
      have hik:i<len:=by have:=(ya.1 e3).1;simpa using this
      rw[yq hik] at e3
      cases e3
      obtain⟨cs',ec⟩:=hcell i (by omega)
      rw[ec]
      obtain⟨k1,k2,_⟩:=hrow i (by omega) cs' ec
      exact⟨k1,k2⟩)
     rw[yA,yP] at fl1
     obtain⟨csl,ecl⟩:=hcell (cap-1) (by omega)
     obtain⟨_,_,hend⟩:=hrow (cap-1) (by omega) csl ecl
     have hcapsz:cap*sz=sz+(cap-1)*sz:=by
      obtain⟨k,rfl⟩:∃ k,cap=k+1:=⟨cap-1,by omega⟩
      rw[yH];simp;omega
     have hlensz:len*sz<=cap*sz:=vE _ hlc
     have hlt:a.block<B:=by rw[hB];exact(yj.1 q1).1
     have hxl:(x::xs).length=len*sz:=by rw[<- hvl,fl1]
     have hr2:=r1.zgH hlt q1 v1 fl2 (by omega)
     refine⟨_,hr2,l1.trans (Gh.zei _ _),.cons ?_ .nil⟩
     have hV:=V.sl (G:=G1++[[⟨a.block,0,(x::xs).length,c.size,a.off⟩]]) (loc:=h1.length) (off:=0) (len:=len) (sz:=sz) (ver:=0) (cap:=cap) (clip:=false) (r:=⟨a.block,0,(x::xs).length,c.size,a.off⟩) (by rw[<- r1.len,zbX];rfl) (yd _) (by show 0+len*sz<=(x::xs).length;omega) hlc
      (by show 0+a.off-0+cap*sz<=c.size;omega) (fun e=>by cases e) (fun _=>by show(x::xs).length<=0+cap*sz;omega) hcm hpos
     obtain⟨ab,ao,as1⟩:=a
     simp only at q2
     subst q2
     rw[<- hln]
     simpa using hV
   ·cases hl
  ·rename_i e rs0 hu
   split at hl
   ·rename_i hpos
    cases hl
    have hpos:0<P.cellsOf e:=by simpa [Nat.blt_eq] using hpos
    rcases DataW.trod_slice hu ht with⟨rfl,he⟩|⟨a,len,cap,el,rs,n',rfl,rfl,he,hba,hlc,hcm,hel,hee,hsp,_⟩
    ·cases he
    ·simp only[vL,DataW.slice.injEq] at he
     obtain⟨⟨he1,he2⟩,_⟩:=he
     have hln:len=0:=by rw[<- hel,<- show(el.map (·.1)).length=el.length from yA _,<- he1];rfl
     subst hln
     obtain⟨hrl,hrr⟩:=hsp rfl
     rcases vo cap with h0|h0
     ·subst h0
      obtain⟨b0,c,T,fr,hb0⟩:=hz
      have hr2:=hr.zgH (a:=⟨b0,0,none⟩) (xs:=[]) (cs:=[]) (by show b0<B;rw[hB];exact(yj.1 hb0).1) hb0 .nil (fun j u hu=>by simp at hu) (by simp)
      refine⟨_,hr2,Gh.zei _ _,.cons ?_ .nil⟩
      exact V.sl0 (r:=⟨b0,0,0,c.size,0⟩) (by rw[<- hr.len,zbX];rfl) (yd _) (yd _) (fun _=>yd _) hpos
     ·have hc:∀ i,i<cap->∃ cs',w.cells? base (a.add (i*P.cellsOf e)) (P.cellsOf e)=some cs':=by
       intro i hi
       have h0:=hrr i (by omega)
       rw[yb (by omega),yv] at h0
       obtain⟨cs',e1,_⟩:=yo.1 h0
       exact⟨cs',e1⟩
      obtain⟨c0,ec0⟩:=hc 0 h0
      obtain⟨c,T,fr,q1,q2,_,_⟩:=zbZ ec0 hpos
      have ha0:a.add (0*P.cellsOf e)=a:=by simp [Addr.add]
      rw[ha0] at q1 q2
      obtain⟨csl,ecl⟩:=hc (cap-1) (by omega)
      obtain⟨c2,T2,fr2,g1,_,_,g4⟩:=zbZ ecl hpos
      rw[(zaJ a _).1,q1] at g1
      cases g1
      rw[(zaJ a _).2] at g4
      have hcapsz:cap*P.cellsOf e=P.cellsOf e+(cap-1)*P.cellsOf e:=by
       obtain⟨k,rfl⟩:∃ k,cap=k+1:=⟨cap-1,by omega⟩
       rw[yH];simp;omega
      have hlt:a.block<B:=by rw[hB];exact(yj.1 q1).1
      have hr2:=hr.zgH (a:=a) (xs:=[]) (cs:=[]) hlt q1 .nil (fun j u hu=>by simp at hu) (by simp only[List.length_nil];omega)
      refine⟨_,hr2,Gh.zei _ _,.cons ?_ .nil⟩
      have hV:=V.sl (G:=G++[[⟨a.block,0,0,c.size,a.off⟩]]) (loc:=h.length) (off:=0) (len:=0) (sz:=P.cellsOf e) (ver:=0) (cap:=cap) (clip:=false) (r:=⟨a.block,0,0,c.size,a.off⟩) (by rw[<- hr.len,zbX];rfl) (yd _) (by simp) hlc
       (by show 0+a.off-0+cap*P.cellsOf e<=c.size;omega) (fun e=>by cases e) (fun _=>vl _) hcm hpos
      obtain⟨ab,ao,as1⟩:=a
      simp only at q2
      subst q2
      simpa using hV
   ·cases hl
  ·rename_i fs ds hu
   split at hl
   ·rename_i hq
    obtain⟨ys,n',rfl,he,hlen,hyl,hy⟩:=DataW.trod_struct hu ht
    cases he
    have hfl:=zgr (cs:=cs) hq.1 hlen (vl _)
    rw[vj] at hfl
    obtain⟨G1,r1,l1,v1⟩:=zco (Q:=fun(p:Field×DataW H) cs=>∃ n q,DataW.trod enc P w base (fun _=>true) held n p.1.type cs=some (p.2,q)) (fun d h xs h' G hr hl cs hq=>ih d.1.type d.2 h xs h' G hr hl cs hq) hr hl
     (css:=fs.toList.map fun f=>(cs.drop f.offset).take (P.cellsOf f.type)) (by simp [hyl]) (fun i d cs' e1 e2=>by
      rw[yf,yh] at e2
      obtain⟨f,e3,rfl⟩:=e2
      rw[List.getElem?_zip_eq_some] at e1
      rw[e3] at e1
      obtain⟨e4,e5⟩:=e1
      cases e4
      rw[yf,yh] at e5
      obtain⟨y,e6,e7⟩:=e5
      have:=hy i d.1 (by simpa using e3)
      rw[e6] at this
      exact⟨n',y.2,by rw[this,<- e7]⟩)
    rw[hfl] at v1
    exact⟨G1,r1,l1,v1⟩
   ·cases hl
  ·rename_i k e ds hu
   split at hl
   ·rename_i hq
    obtain⟨ys,n',rfl,he,hlen,hyl,hy⟩:=trod_array hu ht
    simp only at he
    cases he
    have hfl:=zjr (cs:=cs) (sz:=P.cellsOf e) (k:=k) (o:=0) (by rw[hlen,hq.1];omega)
    simp only[yv,vj] at hfl
    obtain⟨G1,r1,l1,v1⟩:=zco (Q:=fun(d:DataW H) cs=>∃ n q,DataW.trod enc P w base (fun _=>true) held n e cs=some (d,q)) (fun d h xs h' G hr hl cs hq=>ih e d h xs h' G hr hl cs hq) hr hl
     (css:=(yy k).map fun i=>(cs.drop (i*P.cellsOf e)).take (P.cellsOf e)) (by simp [hyl]) (fun i d cs' e1 e2=>by
      rw[yf,yh] at e1 e2
      obtain⟨y,e6,e7⟩:=e1
      obtain⟨j,e3,rfl⟩:=e2
      have hik:i<k:=by rw[<- hyl];exact(ya.1 e6).1
      rw[yq hik] at e3
      cases e3
      have:=hy i hik
      rw[e6] at this
      exact⟨n',y.2,by rw[this,<- e7]⟩)
    rw[hfl] at v1
    exact⟨G1,r1,l1,v1⟩
   ·cases hl
  ·rename_i ms hu
   cases hl
   have:=zjq hu ht
   subst this
   exact⟨G,hr,Gh.jY _,.cons .zer .nil⟩
  ·rename_i ms nm d hu
   cases hl
   obtain⟨u,v,rfl⟩:=ziT hu ht
   exact⟨G,hr,Gh.jY _,.cons (.opq u v) .nil⟩
  ·cases hl
theorem HR.zzy{G:Gh}{h:zg}{loc:Nat}{blk blk':Blk}{vs:List Ver}(hr:HR G B h w)(hl:h[loc]?=some blk)(ho:blk.own=false)(ho':blk'.own=false)(hg:G[loc]?=some vs)(hB:zqB G w blk' vs):HR G B (h.set loc blk') w:=by
 have hlt:=Arr.lt hl
 refine⟨by rw[Arr.length_set];exact hr.len,fun l b vs' h1 h2=>?_,hr.lt,fun l v r b hat h1=>?_,hr.apart,hr.base⟩
 ·rw[Arr.qk] at h1
  split at h1
  ·rename_i e
   subst e
   cases h1
   rw[hg] at h2;cases h2
   exact hB
  ·exact hr.blk l b vs' h1 h2
 ·rw[Arr.qk] at h1
  split at h1
  ·rename_i e
   subst e
   cases h1
   have:=hr.own _ _ _ _ hat hl
   rw[ho] at this
   rw[ho']
   exact this
  ·exact hr.own _ _ _ _ hat h1
end
def zeY(P:Program)(m:Nat):List (String×DataW Unit)->zg->Option zg
 | [],h=>some h
 |(n,d)::r,h=>match P.globalNamed n with
  |some g=>match P.globals[g]? with
   |some v=>match zvJ P m v.type d h with
    |some (xs,h1)=>match h1[g]? with
     |some .dead=>if ye xs.length (P.cellsOf v.type)=true then zeY P m r (h1.set g (.lay xs)) else none
     |_=>none
    |none=>zeY P m r h
   |none=>none
  |none=>none
def zgf(P:Program):Gh:=(yy P.globals.size).map fun g=>match P.globals[g]? with
 |some v=>[⟨g,0,P.cellsOf v.type,P.cellsOf v.type,0⟩]
 |none=>[]
section
variable {P:Program} {B:Nat} {w:World}
theorem zdh(hB:B=w.heap.size)(hz:∃ (b0:Nat) (c:Array Value) (T:TypeId) (fr:Nat×Nat),w.heap[b0]?=some (.cells c T fr))(m:Nat):∀ {l:List (String×DataW Unit)} {ps:List MemPlace} {h h':zg} {G:Gh},DataW.LaidVars P w l ps->zeY P m l h=some h'->HR G B h w->(zgf P).ext G->∃ G',HR G' B h' w/\G.ext G'
 | [],ps,h,h',G,hp,hl,hr,hx=>by cases hl;exact⟨G,hr,Gh.jY _⟩
 |(n,d)::l,ps,h,h',G,hp,hl,hr,hx=>by
  obtain⟨g,t,cs,fuel,p,q,e1,e2,e3,e4,e5,_⟩:=hp
  unfold zeY at hl
  rw[e1] at hl
  simp only at hl
  obtain⟨v,ev,rfl⟩:=yh.1 e2
  rw[ev] at hl
  simp only at hl
  split at hl
  ·rename_i xs h1 hd
   split at hl
   ·rename_i hdead
    split at hl
    ·rename_i hlen
     have hlen:=yg hlen
     obtain⟨G1,r1,x1,v1⟩:=zl4 hB hz m v.type d h xs h1 G hr hd cs.toList ⟨fuel,p,e4⟩
     have hgl:g<P.globals.size:=(yj.1 ev).1
     have hgv:(zgf P)[g]?=some [⟨g,0,P.cellsOf v.type,P.cellsOf v.type,0⟩]:=by
      unfold zgf
      rw[yf,yq hgl]
      simp only[yU,ev]
     have hgG:=(hx.trans x1).get hgv
     have hcl:=v1.length
     rw[vC] at hcl
     obtain⟨c,T,fr,hw,hc⟩:∃ c T fr,w.heap[g]?=some (.cells c T fr)/\c=cs:=by
      unfold World.var? at e3
      rw[e1] at e3
      simp only[vI] at e3
      split at e3
      ·rename_i c T fr hb;cases e3;exact⟨_,T,fr,hb,rfl⟩
      ·cases e3
     subst hc
     have hr2:=r1.zzy (blk':=.lay xs) hdead rfl rfl hgG (.inr ⟨_,rfl,rfl,hlen.symm,c,T,fr,hw,by show c.size=P.cellsOf v.type;omega,by show P.cellsOf v.type+0<=P.cellsOf v.type;omega,fun p' hp'=>by
      have hp2:p'<xs.length:=by rw[hlen];exact hp'
      obtain⟨u,f1,f2⟩:=v1.get (yb hp2)
      exact⟨_,u,yb hp2,by rw[<- vz];exact f1,f2⟩⟩)
     obtain⟨G2,r2,x2⟩:=zdh hB hz m e5 hl hr2 (hx.trans x1)
     exact⟨G2,r2,x1.trans x2⟩
    ·cases hl
   ·cases hl
  ·exact zdh hB hz m e5 hl hr hx
theorem ztB{g:Nat}{vs:List Ver}(h:(zgf P)[g]?=some vs):g<P.globals.size/\∃ v,P.globals[g]?=some v/\vs=[⟨g,0,P.cellsOf v.type,P.cellsOf v.type,0⟩]:=by
 have hg:g<P.globals.size:=by have:=(ya.1 h).1;simpa [zgf] using this
 have hv:P.globals[g]?=some P.globals[g]:=yX hg
 unfold zgf at h
 rw[yf,yq hg] at h
 simp only[yU,hv,yx] at h
 exact⟨hg,_,hv,h.symm⟩
theorem zln{g v:Nat}{r:Ver}(h:(zgf P).at g v=some r):g<P.globals.size/\r.b=g:=by
 unfold Gh.at at h
 cases hg:(zgf P)[g]? with
 |none=>rw[hg] at h;cases h
 |some vs=>
  rw[hg] at h
  obtain⟨h1,x,_,rfl⟩:=ztB hg
  refine⟨h1,?_⟩
  cases v with
  |zero=>simp at h;rw[<- h]
  |succ v=>simp at h
theorem zp2(hn:P.globals.size<=w.heap.size):HR (zgf P) w.heap.size (Arr.of (yD P.globals.size .dead)) w:=by
 refine⟨by rw[Arr.zrH];simp [zgf],fun loc b vs hb hg=>?_,fun loc v r hat=>?_,fun loc v r b hat hb=>?_,fun l1 l2 v1 v2 r1 r2 h1 _ hB _=>?_,yd _⟩
 ·rw[Arr.zro,vy] at hb
  split at hb
  ·cases hb;trivial
  ·cases hb
 ·have:=zln hat;omega
 ·rw[Arr.zro,vy] at hb
  have:=zln hat
  split at hb
  ·cases hb
   exact Iff.intro (fun e=>by cases e) (fun e=>by omega)
  ·cases hb
 ·have:=zln h1;omega
theorem zgt:∀ {laid:List (String×DataW Unit)} {ps:List MemPlace},DataW.LaidVars P w laid ps->laid.isEmpty=false->∃ (b0:Nat) (c:Array Value) (T:TypeId) (fr:Nat×Nat),w.heap[b0]?=some (.cells c T fr)
 | [],_,_,he=>by cases he
 |(n,d)::l,ps,hp,_=>by
  obtain⟨g,t,cs,fuel,p,q,e1,e2,e3,e4,e5,_⟩:=hp
  unfold World.var? at e3
  rw[e1] at e3
  simp only[vI] at e3
  split at e3
  ·rename_i c T fr hb;exact⟨g,_,T,fr,hb⟩
  ·cases e3
end
structure zvp(W W':World):Prop where
 os:W'.os=W.os
 output:W'.output=W.output
 size:W.heap.size<=W'.heap.size
 low:∀ b,b<W.heap.size->W'.heap[b]?=W.heap[b]?
theorem zvp.kept{W W':World}(h:zvp W W')(may:MemPlace->Prop):W.keptBut W' may:=by
 refine⟨h.os,h.output,fun i hi=>?_⟩
 rw[h.low i hi]
 cases W.heap[i]? with
 |none=>rfl
 |some o=>cases o<;>first|exact⟨rfl,rfl,rfl,fun _ _=>rfl⟩|exact .inr ⟨rfl,rfl⟩|rfl
theorem zvp.same{W W':World}(h:zvp W W')(p:MemPlace)(hp:p.block<W.heap.size):W.sameAt W' p:=by
 cases p with
 |cell b off=>show W'.cell? _=W.cell? _;unfold World.cell?;rw[h.low b hp]
 |map b=>exact h.low b hp
theorem zq6{G:Gh}{B:Nat}{W W':World}{v:AV}{h':zg}{e:Ending}(hB:B=W.heap.size)(hr:∀ loc v r,G.at loc v=some r->r.b<B)(hc:zqC G B W (.ret v h') e W'):zvp W W'/\∃ G' u,V G' v u/\e=.returned u:=by
 obtain⟨G',hS,u,hv,rfl⟩:=hc
 exact⟨⟨hS.fr.os,hS.fr.output,hS.fr.size,fun b hb=>hS.fr.low b hb fun loc v r hat hBr e=>by have:=hr _ _ _ hat;omega⟩,G',u,hv,rfl⟩
section
variable {H:Type} {enc:TypeId×Value->H} {P:Program}
theorem zhj{W W':World}(hg:zvp W W'){base:Nat}{sp:Nat->Bool}{held:Bool}:∀ {ts:List TypeId} {vs:List Value} {ds:List (DataW H)} {ps:List MemPlace},
  DataW.TrodAll enc P W base sp held ts vs ds ps->(∀ p ∈ ps,p.block<W.heap.size)->DataW.TrodAll enc P W' base sp held ts vs ds ps
 | [],[],[],ps,h,_=>h
 |t::ts,v::vs,d::ds,ps,h,hp=>by
  obtain⟨p,q,⟨n,h1⟩,h2,rfl⟩:=h
  exact⟨p,q,⟨n,DataW.trod_carry n _ _ _ h1 fun x hx=>hg.same x (hp x (vk _ hx))⟩,zhj hg h2 (fun x hx=>hp x (List.mem_append_right _ hx)),rfl⟩
 | [],[],_::_,_,h,_=>h.elim
 | [],_::_,_,_,h,_=>h.elim
 |_::_,[],_,_,h,_=>h.elim
 |_::_,_::_,[],_,h,_=>h.elim
theorem zmz{fn:Func}{s:ChangeSpec}{W W':World}{args:Array Value}{ds gs:List (DataW H)}{before:List MemPlace}{tb:TypeId}
  (hlo:laidOutB P=true) (hmr:mapsRowed P=true) (hfull:((yy P.types.size).all fun t=>match P.underlying t with|some (.slice e)=>decide (0<P.cellsOf e)|_=>true)=true)
  (hts:(fn.params.toList.all fun t=>decide (t<P.types.size))=true) (hr:fn.resultTypes=#[tb]) (hb:P.underlying tb=some .bool) (hv:s.vars=[]) (hs:s.fn H ds={ results:=[.lit (.bool true)],args:=ds })
  (hW:DataW.Whole enc P fn.params.toList s.vars false W args.toList ds gs before) (hg:zvp W W'):
  s.post enc P fn false true false false W args (.bool true) W':=by
 have hW0:=hW
 have hlt:=hW.lt
 obtain⟨p,q,hA,hV,rfl,hz,hn⟩:=hW
 rw[hv] at hV
 obtain⟨rfl,rfl⟩:gs=[]/\q=[]:=by
  cases gs with
  |nil=>exact⟨rfl,hV⟩
  |cons=>exact hV.elim
 have hT:∀ t ∈ fn.params.toList,t<P.types.size:=fun t ht=>of_decide_eq_true (vt.1 hts t ht)
 have hA':DataW.TrodAll enc P W 0 (fun b=>decide (b<W.heap.size)) true fn.params.toList args.toList ds p:=
  DataW.TrodAll.respare (kids_rows hlo hmr) (slices_full_of P hfull) hT hA fun x hx=>by simpa using hlt x (vk _ hx)
 refine⟨ds,[],p++[],[],p,[],hW0,?_,?_,?_,hg.kept _,fun e=>by cases e⟩
 ·rw[yz,hs,hr]
  exact⟨[],[],⟨1,by simp [DataW.trod,hb,Value.cells]⟩,rfl,rfl⟩
 ·rw[yz,hs]
  exact zhj hg hA' fun x hx=>hlt x (vk _ hx)
 ·rw[yz,hs,hv];rfl
end
section
variable {P:Program} {hgl:zg} {Gg:Gh} {W0 w:World}
end
def zuE(v:Bool):Option CR->Bool
 |some (.ret (.bool b) _)=>b==v
 |_=>false
theorem zjV{v:Bool}{o:Option CR}(h:zuE v o=true):∃ h',o=some (.ret (.bool v) h'):=by
 unfold zuE at h
 split at h
 ·rename_i b h';exact⟨h',by rw[eq_of_beq h]⟩
 ·cases h
section
variable {H:Type} {enc:TypeId×Value->H} {P:Program} {W:World}
theorem zjZ{P:Program}{w:World}{g:Nat}{t:TypeId}{zero:Array Value}{k:IntKind}(h:w.ShapedOpen P)(hg:g<P.globals.size)
  (h0:((begin P (fun _ _=>0) default).world.heap[g]?).bind Obj.row?=some (zero,t)) (hz:zero.size=1)
  (hb:P.buildable t=true) (hc:P.cellTypes P.depth t=some [t]) (hu:P.underlying t=some (.int k)):
  ∃ m c T fr,w.heap[g]?=some (.cells c T fr)/\c.size=1/\c[0]?=some (.int k m)/\k.min<=m/\m<=k.max:=by
 obtain⟨cs,hh,hs,hr⟩:=h.1 g zero t hg h0
 obtain⟨ts,hts,_,hall⟩:=hr hb
 rw[hc] at hts
 cases hts
 have h1:0<cs.size:=by omega
 obtain⟨u,hu',hok⟩:=hall 0 cs[0] (by simp [h1])
 have:u=t:=by simpa using hu'.symm
 subst this
 unfold Cell.ok at hok
 rw[hu] at hok
 cases hv:cs[0]<;>rw[hv] at hok<;>simp at hok
 case int k' n=>
  obtain⟨rfl,h2,h3⟩:=hok
  exact⟨n,cs,_,_,hh,by omega,by rw[yX h1,hv],h2,h3⟩
theorem ziO{P:Program}{w:World}(h:w.ShapedOpen P)(h0:((((begin P (fun _ _=>0) default).world.heap[P.globals.size-1]?).bind Obj.row?).isSome&&decide (0<P.globals.size))=true):P.globals.size<=w.heap.size:=by
 simp only[yc,decide_eq_true_eq] at h0
 obtain⟨⟨zero,t⟩,h1⟩:=Option.isSome_iff_exists.1 h0.1
 obtain⟨cs,hh,_⟩:=h.1 (P.globals.size-1) zero t (by omega) h1
 have:=(yj.1 hh).1
 omega
theorem zkM{P:Program}{w:World}{laid:List (String×DataW Unit)}{m:Nat}{hgl:zg}(hn:P.globals.size<=w.heap.size)(hm:laidMet P laid w)(hne:laid.isEmpty=false)(hl:zeY P m laid (Arr.of (yD P.globals.size .dead))=some hgl)
  {g:Nat} {c:Array Value} {T:TypeId} {fr:Nat×Nat} {z lo hi:Int} (hd:hgl[g]?=some .dead) (hgt:((P.globals[g]?).map fun v=>P.cellsOf v.type)=some 1) (hc:w.heap[g]?=some (.cells c T fr)) (hcs:c.size=1) (hc0:c[0]?=some (.int .i64 z)) (h1:lo<=z) (h2:z<=hi):
  ∃ Gg,Laid P (hgl.set g (.lay [.iv lo hi])) Gg w.heap.size w:=by
 obtain⟨ps,hv,_⟩:=hm
 obtain⟨G,hr,hx⟩:=zdh rfl (zgt hv hne) m hv hl (zp2 hn) (Gh.jY _)
 obtain⟨v,ev,ecells⟩:=yh.1 hgt
 have hgl':g<P.globals.size:=(yj.1 ev).1
 have hgv:(zgf P)[g]?=some [⟨g,0,P.cellsOf v.type,P.cellsOf v.type,0⟩]:=by
  unfold zgf
  rw[yf,yq hgl']
  simp only[yU,ev]
 have hr2:=hr.zzy (blk':=.lay [.iv lo hi]) hd rfl rfl (hx.get hgv) (.inr ⟨_,rfl,rfl,by simp [ecells],c,T,fr,hc,by simp [ecells,hcs],by simp [ecells],fun p hp=>by
  have hp0:p=0:=by
   have:p<P.cellsOf v.type:=hp
   omega
  subst hp0
  exact⟨_,_,rfl,by simpa using hc0,.iv h1 h2⟩⟩)
 refine⟨G,hr2,fun loc v r hat=>hr2.lt _ _ _ hat,fun g hg=>?_⟩
 have hv:P.globals[g]?=some P.globals[g]:=yX hg
 have hgv:(zgf P)[g]?=some [⟨g,0,P.cellsOf (P.globals[g]).type,P.cellsOf (P.globals[g]).type,0⟩]:=by
  unfold zgf
  rw[yf,yq hg]
  simp only[yU,hv]
 exact⟨_,Gh.zdH (hx.get hgv) rfl,rfl,rfl,rfl⟩
theorem zxd{P:Program}{W:World}{r:Reach}{base:Nat}{t:TypeId}{cs:Array Value}(ha:zlp P t=some false)(h:Value.okWide P W r base t (.agg cs)):False:=by
 unfold Value.okWide at h
 unfold zlp at ha
 cases hu:P.underlying t with
 |none=>rw[hu] at ha;cases ha
 |some d=>
  rw[hu] at ha h
  cases d<;>first|(cases ha;done)|(simp [Cell.okWide,Cell.ok,hu] at h;done)
theorem zxL{P:Program}{W:World}{r:Reach}{base:Nat}{t:TypeId}{v:Value}(ha:zlp P t=some true)(h:Value.okWide P W r base t v):∃ l:List Value,v=.agg (List.toArray l):=by
 unfold zlp at ha
 unfold Value.okWide at h
 cases hu:P.underlying t with
 |none=>rw[hu] at ha;cases ha
 |some d=>
  rw[hu] at ha h
  cases d<;>first|(cases ha;done)|(obtain⟨cs,rfl,_⟩:=h;exact⟨cs.toList,by simp⟩)
theorem val_one{P:Program}{W:World}{r:Reach}{base:Nat}{t:TypeId}{v x:Value}(ha:zlp P t=some false)(h:Value.okWide P W r base t v)(hc:v.cells.toList=[x]):v=x:=by
 cases v with
 |agg cs=>exact(zxd ha h).elim
 |_=>simpa [Value.cells] using hc
theorem zlk{t:TypeId}{ts:List TypeId}{vs:List Value}{ds:List (DataW H)}{ps:List MemPlace}(h:DataW.TrodAll enc P W 0 (fun _=>true) true (t::ts) vs ds ps):
  ∃ v vs' d ds' p q,vs=v::vs'/\ds=d::ds'/\(∃ n,DataW.trod enc P W 0 (fun _=>true) true n t v.cells.toList=some (d,p))/\DataW.TrodAll enc P W 0 (fun _=>true) true ts vs' ds' q:=by
 match vs,ds,h with
 |v::vs',d::ds',h=>obtain⟨p,q,h1,h2,_⟩:=h;exact⟨v,vs',d,ds',p,q,rfl,rfl,h1,h2⟩
theorem zlj{vs:List Value}{ds:List (DataW H)}{ps:List MemPlace}(h:DataW.TrodAll enc P W 0 (fun _=>true) true [] vs ds ps):vs=[]/\ds=[]:=by
 match vs,ds,h with
 | [],[],_=>exact⟨rfl,rfl⟩
end
end Go.Mx
namespace Go.Sx
open Go Go.Gx Go.Mx
variable [kF]
@[reducible] def ze{α β γ:Type}(o:α ⊕ β)(f:α->γ)(g:β->γ):γ:=match o with
 |.inl a=>f a
 |.inr b=>g b
def zCu:Lf->Option Bool
 |.b x=>some x
 |_=>none
def zCw:Lf->Option Int
 |.i x=>some x
 |_=>none
def zCv:Lf->Option UInt8
 |.c x=>some x
 |_=>none
def zCz:Lf->Option (List UInt8)
 |.s x=>some x
 |_=>none
def zCy:Lf->Option Nat
 |.n x=>some x
 |_=>none
def zCx(u:U):Lf->Option (List (El u))
 |.l v x=>zbr v u x
 |_=>none
def zBZ(u:U):Lf->Option (El u)
 |.e v x=>if h:v=u then some (h ▸ x) else none
 |_=>none
inductive LK where
 |b|i|c|s|n|l (u:U)|e (u:U)
@[reducible] def LK.T:LK->Type
 |.b=>Bool|.i=>Int|.c=>UInt8|.s=>List UInt8|.n=>Nat|.l u=>List (El u)|.e u=>El u
def LK.g:(k:LK)->Lf->Option k.T
 |.b=>zCu|.i=>zCw|.c=>zCv|.s=>zCz|.n=>zCy|.l u=>zCx u|.e u=>zBZ u
def LK.m:(k:LK)->k.T->Lf
 |.b=>.b|.i=>.i|.c=>.c|.s=>.s|.n=>.n|.l u=>.l u|.e u=>.e u
@[reducible] def LTs:List LK->Type
 | []=>Unit
 |k::ks=>k.T×LTs ks
def eL:(ks:List LK)->LTs ks->List Lf
 | [],_=>[]
 |k::ks,(x,y)=>k.m x::eL ks y
def dL:(ks:List LK)->List Lf->Option (LTs ks)
 | [],[]=>some ()
 |k::ks,w::ws=>match k.g w,dL ks ws with
  |some a,some b=>some (a,b)
  |_,_=>none
 |_,_=>none
theorem LK.g_s:∀ {k:LK} {w:Lf} {x:k.T},k.g w=some x->w=k.m x
 |.b,w,x,h=>by cases w<;>first|(cases h;rfl)|cases h
 |.i,w,x,h=>by cases w<;>first|(cases h;rfl)|cases h
 |.c,w,x,h=>by cases w<;>first|(cases h;rfl)|cases h
 |.s,w,x,h=>by cases w<;>first|(cases h;rfl)|cases h
 |.n,w,x,h=>by cases w<;>first|(cases h;rfl)|cases h
 |.l u,w,x,h=>by
  cases w<;>first|(cases h;done)|skip
  obtain⟨e,h2⟩:=jm h
  subst e;cases h2;rfl
 |.e u,w,x,h=>by
  cases w<;>first|(cases h;done)|skip
  simp only[LK.g,zBZ] at h
  split at h
  ·rename_i e;subst e;cases h;rfl
  ·cases h
theorem zA1:∀ {ks:List LK} {ls:List Lf} {x:LTs ks},dL ks ls=some x->ls=eL ks x
 | [],[],x,h=>rfl
 | [],_::_,x,h=>by cases h
 |_::_,[],x,h=>by cases h
 |k::ks,w::ws,x,h=>by
  simp only[dL] at h
  split at h
  ·rename_i a b ha hb
   cases h
   rw[LK.g_s ha,zA1 hb];rfl
  ·cases h
@[reducible] def Cv(O:Type):List (List LK)->Type
 | []=>Unit
 |ks::r=>(LTs ks->O)×Cv O r
def dO{O:Type}:(oks:List (List LK))->Cv O oks->Nat->List Lf->Option O
 | [],_,_,_=>none
 |ks::_,(f,_),0,os=>(dL ks os).map f
 |_::r,(_,fs),k+1,os=>dO r fs k os
def zAb{O:Type}(kc:KC O):(oks:List (List LK))->Cv O oks->Nat->Prop
 | [],_,_=>True
 |ks::r,(f,fs),j=>(∀ x R κ,kc R (f x) κ=κ j (eL ks x))/\zAb kc r fs (j+1)
theorem zBU{O:Type}{kc:KC O}:∀ {oks:List (List LK)} {cv:Cv O oks} {j:Nat},zAb kc oks cv j->∀ k os o,dO oks cv k os=some o->∀ R κ,kc R o κ=κ (j+k) os
 | [],_,_,_,k,os,o,h=>by cases h
 |ks::r,(f,fs),j,⟨h1,h2⟩,0,os,o,h=>fun R κ=>by
  simp only[dO,yh] at h
  obtain⟨x,hx,rfl⟩:=h
  rw[h1,zA1 hx];rfl
 |ks::r,(f,fs),j,⟨h1,h2⟩,k+1,os,o,h=>fun R κ=>by
  rw[zBU h2 k os o h R κ,vn,Nat.add_assoc]
def lsT{O:Type}(ks:List LK)(F:LTs ks->Option O)(kc:KC O):LS:=fun R ls κ=>((dL ks ls).bind F).bind fun o=>kc R o κ
def zqs:Code->List Nat->Code
 |c,[]=>c
 |.seq a _,0::p=>zqs a p
 |.seq _ b,_::p=>zqs b p
 |.cond _ a _,0::p=>zqs a p
 |.cond _ _ b,_::p=>zqs b p
 |.block _ c,_::p=>zqs c p
 |.loop c,_::p=>zqs c p
 |.rangeFunc _ _ a _,0::p=>zqs a p
 |.rangeFunc _ _ _ b,_::p=>zqs b p
 |_,_=>.skip
def roundOf(fn:Func)(p:List Nat):Code:=match fn.body with
 |some c=>match zqs c p with
  |.loop b=>b
  |_=>.skip
 |none=>.skip
def zvy{α:Type 1}:Option (List α)->Option (List α)->Option (List α)
 |some a,some b=>some (a++b)
 |_,_=>none
def qm(P:Program):Pl->Code->Option (List (Code×LF))
 |.auto,_=>some []
 |.two a b,c=>match c with
  |.seq x y=>zvy (qm P a x) (qm P b y)
  |.cond _ x y=>zvy (qm P a x) (qm P b y)
  |.loop x=>zvy (qm P a x) (qm P b (.loop x))
  |_=>none
 |.one a,c=>match c with
  |.block _ x=>qm P a x
  |.loop x=>qm P a x
  |_=>none
 |.cal _ f a rest,c=>match P.funcs[f]? with
  |some fn=>match fn.body with
   |some b=>zvy (qm P a b) (qm P rest c)
   |none=>none
  |none=>none
 |.by_ g,c=>match c with
  |.loop x=>some [(.loop x,g)]
  |.region id ops true=>some [(.region id ops true,g)]
  |.rangeFunc f ps a b=>some [(.rangeFunc f ps a b,g)]
  |_=>none
 |.yl _ id a b rest,c=>match kF.at_ id with
  |some (_,asg,body)=>zvy (qm P a asg) (zvy (qm P b body) (qm P rest c))
  |none=>qm P rest c
section
variable {P:Program} {gl:GL} {hk:wJ}
def zc4(P:Program)(gl:GL)(hk:wJ):List (Code×LF)->Prop
 | []=>True
 |(c,g)::l=>zkd P gl hk c g/\zc4 P gl hk l
theorem zc4.app:∀ {a b:List (Code×LF)},zc4 P gl hk (a++b)->zc4 P gl hk a/\zc4 P gl hk b
 | [],b,h=>⟨trivial,h⟩
 |_::_,b,⟨h1,h2⟩=>⟨⟨h1,(zc4.app h2).1⟩,(zc4.app h2).2⟩
theorem zcJ{α:Type 1}{a b:Option (List α)}{l:List α}(h:zvy a b=some l):∃ x y,a=some x/\b=some y/\l=x++y:=by
 unfold zvy at h
 split at h
 ·cases h;exact⟨_,_,rfl,rfl,rfl⟩
 ·cases h
theorem kW:∀ {pl:Pl} {c:Code} {ls:List (Code×LF)},qm P pl c=some ls->zc4 P gl hk ls->xx P gl hk pl c
 |.auto,_,_,_,_=>trivial
 |.two a b,c,ls,h,hs=>by
  unfold qm at h
  split at h
  ·obtain⟨x,y,h1,h2,rfl⟩:=zcJ h
   exact⟨kW h1 (zc4.app hs).1,kW h2 (zc4.app hs).2⟩
  ·obtain⟨x,y,h1,h2,rfl⟩:=zcJ h
   exact⟨kW h1 (zc4.app hs).1,kW h2 (zc4.app hs).2⟩
  ·obtain⟨x,y,h1,h2,rfl⟩:=zcJ h
   exact⟨kW h1 (zc4.app hs).1,kW h2 (zc4.app hs).2⟩
  ·cases h
 |.one a,c,ls,h,hs=>by
  unfold qm at h
  split at h
  ·exact kW (pl:=a) h hs
  ·exact kW (pl:=a) h hs
  ·cases h
 |.cal i f a rest,c,ls,h,hs=>by
  unfold qm at h
  split at h
  ·rename_i fn hf
   split at h
   ·rename_i b hb
    obtain⟨x,y,h1,h2,rfl⟩:=zcJ h
    refine⟨fun fn' b' hf' hb'=>?_,kW h2 (zc4.app hs).2⟩
    rw[hf] at hf';cases hf'
    rw[hb] at hb';cases hb'
    exact kW h1 (zc4.app hs).1
   ·cases h
  ·cases h
 |.by_ g,c,ls,h,hs=>by
  unfold qm at h
  split at h
  ·cases h;exact hs.1
  ·cases h;exact hs.1
  ·cases h;exact hs.1
  ·cases h
 |.yl _ id a b rest,c,ls,h,hs=>by
  unfold qm at h
  split at h
  ·rename_i ps asg body hc
   obtain⟨x,y,h1,h2,rfl⟩:=zcJ h
   obtain⟨y1,y2,h3,h4,rfl⟩:=zcJ h2
   refine⟨fun ps' asg' body' hc'=>?_,kW h4 (zc4.app (zc4.app hs).2).2⟩
   rw[hc] at hc';cases hc'
   exact⟨kW h1 (zc4.app hs).1,kW h3 (zc4.app (zc4.app hs).2).1⟩
  ·rename_i hc
   exact⟨fun ps asg body hc'=>(by rw[hc] at hc';cases hc'),kW h hs⟩
theorem zfa{f:FuncId}{fn:Func}{pl:Pl}{ls:List (Code×LF)}(hf:P.funcs[f]?=some fn)(h:(match fn.body with|some b=>qm P pl b|none=>none)=some ls)(hs:zc4 P gl hk ls):∀ fn b,P.funcs[f]?=some fn->fn.body=some b->xx P gl hk pl b:=by
 intro fn' b hf' hb
 rw[hf] at hf';cases hf'
 rw[hb] at h
 exact kW h hs
theorem zc4.nil:zc4 P gl hk []:=trivial
theorem zc4.cons{c:Code}{g:LF}{l:List (Code×LF)}(h:zkd P gl hk c g)(t:zc4 P gl hk l):zc4 P gl hk ((c,g)::l):=⟨h,t⟩
def zfj:List (FuncId×CF)->CT
 | [],_=>none
 |(f,g)::l,k=>match ye k f with
  |true=>some g
  |false=>zfj l k
def zi1(P:Program)(gl:GL)(hk:wJ):List (FuncId×CF)->Prop
 | []=>True
 |(f,g)::l=>zhI P gl hk f g/\zi1 P gl hk l
theorem zj6:∀ {l:List (FuncId×CF)},zi1 P gl hk l->∀ f g,zfj l f=some g->zhI P gl hk f g
 | [],_,f,g,h=>by cases h
 |(f0,g0)::l,⟨h1,h2⟩,f,g,h=>by
  unfold zfj at h
  split at h
  ·rename_i he
   cases h
   rw[yg he];exact h1
  ·exact zj6 h2 f g h
def zo0:List (FuncId×CF)->FuncId->Bool
 | [],_=>false
 |(f,_)::l,k=>ye k f||zo0 l k
theorem zlT:∀ {l:List (FuncId×CF)} {k:FuncId},zo0 l k=true->∃ g,zfj l k=some g
 | [],k,h=>by cases h
 |(f,g)::l,k,h=>by
  unfold zfj
  cases hb:ye k f with
  |true=>exact⟨g,rfl⟩
  |false=>simp only[zo0,hb,Bool.false_or] at h;exact zlT h
structure zpH(P:Program)(hk:wJ)(al:List FuncId):Prop where
 h:∀ f g,hk f=some g->f ∉ al->(P.funcs[f]?).bind (·.body)=none
theorem ztX{l:List (FuncId×CF)}{al:List FuncId}(hh:zpH P hk al)(ha:(al.all fun f=>zo0 l f)=true)(hl:zi1 P gl hk l):zm9 P gl (zfj l) hk:=
 ⟨zj6 hl,fun f g hf hc=>hh.h f g hf fun hm=>by
  obtain⟨g',h⟩:=zlT (vt.1 ha f hm)
  rw[hc] at h;cases h⟩
abbrev FT:=List (FuncId×CF)
section
variable {T:FT} {al:List FuncId} (hh:zpH P hk al) (ha:(al.all fun f=>zo0 T f)=true) (hT:zi1 P gl hk T)
include hh ha hT
theorem zBc{n:Nat}(pl:Pl){c:Code}{ls:List (Code×LF)}(h:qm P pl c=some ls)(hs:zc4 P gl hk ls){pre:List (Nat×U)}{p:PS}{outs:List (SX×PS)}{ks:List LK}{oks:List (List LK)}{O:Type}(G:Nat->LTs ks->Option O)(cv:Cv O oks){kc:KC O}
  (h0:∀ x,G 0 x=none) (hr:∀ m x,round P gl (zfj T) n pl p outs c (eL ks x) (fun ls=>(dL ks ls).bind (G m)) (dO oks cv)=G (m+1) x) (ho:zAb kc oks cv 0) (N:Nat):zkd P gl hk (.loop c) (zp pre p outs (lsT ks (G N) kc)):=
 zp5 (ztX hh ha hT) (kW h hs) (G:=fun m ls=>(dL ks ls).bind (G m)) (od:=dO oks cv)
  (fun ls=>by cases dL ks ls with
   |none=>rfl
   |some x=>exact h0 x)
  (fun m ls o h=>by
   cases hd:dL ks ls with
   |none=>rw[hd] at h;cases h
   |some x=>
    rw[hd] at h
    rw[zA1 hd,hr];exact h)
  (fun k os o h R κ=>by rw[zBU ho k os o h R κ,yv]) N
theorem fnG{n:Nat}{f:FuncId}{us rs:List U}{F:El (zaE us)->Option (El (zaE rs))}(pl:Pl){fn:Func}(hf:P.funcs[f]?=some fn){ls:List (Code×LF)}(h:(match fn.body with|some b=>qm P pl b|none=>none)=some ls)(hs:zc4 P gl hk ls)
  (hF:∀ x,zao P gl (zfj T) n pl f (jx us x) [] (zdp rs)=F x):zi1 P gl hk ((f,zP us rs F)::T):=⟨zq3 (ztX hh ha hT) (zfa hf h hs) hF,hT⟩
theorem zCt{n:Nat}{f:FuncId}{u:U}{rs:List U}{F:List (El u)->Option (El (zaE rs))}(pl:Pl){fn:Func}(hf:P.funcs[f]?=some fn){ls:List (Code×LF)}(h:(match fn.body with|some b=>qm P pl b|none=>none)=some ls)(hs:zc4 P gl hk ls)
  (h1:∀ l,zao P gl (zfj T) n pl f [.nsl u l] [] (zdp rs)=F l) (h2:zao P gl (zfj T) n pl f [.a .qC] [] (zdp rs)=F []):zi1 P gl hk ((f,zP [.sl u] rs fun x=>F x.1)::T):=⟨zkn (ztX hh ha hT) (zfa hf h hs) h1 h2,hT⟩
end
section
variable {al:List FuncId} (hh:zpH P hk al) {T:FT} (hT:zi1 P gl hk T)
include hh hT
theorem zW(pl:Pl){c:Code}{ls:List (Code×LF)}(hs:zc4 P gl hk ls){pre:List (Nat×U)}{p:PS}{outs:List (SX×PS)}(ks:List LK)(oks:List (List LK)){O:Type}(G:Nat->LTs ks->Option O)(cv:Cv O oks){kc:KC O}(N:Nat)
  (ha:(al.all fun f=>zo0 T f)=true:=by rfl) (n:Nat:=1500) (h:qm P pl c=some ls:=by kernel_rfl) (h0:∀ x,G 0 x=none:=by intro x;rfl) (hr:∀ m x,round P gl (zfj T) n pl p outs c (eL ks x) (fun ls=>(dL ks ls).bind (G m)) (dO oks cv)=G (m+1) x:=by intro m x;kernel_rfl)
  (ho:zAb kc oks cv 0:=by repeat' (first|exact trivial|refine⟨fun _ _ _=>rfl,?_⟩)):zkd P gl hk (.loop c) (zp pre p outs (lsT ks (G N) kc)):=zBc hh ha hT pl h hs G cv h0 hr ho N
theorem fnA{f:FuncId}{us rs:List U}{F:El (zaE us)->Option (El (zaE rs))}(pl:Pl){fn:Func}(hf:P.funcs[f]?=some fn){ls:List (Code×LF)}(hs:zc4 P gl hk ls)
  (ha:(al.all fun f=>zo0 T f)=true:=by rfl) (n:Nat:=1500) (h:(match fn.body with|some b=>qm P pl b|none=>none)=some ls:=by kernel_rfl)
  (hF:∀ x,zao P gl (zfj T) n pl f (jx us x) [] (zdp rs)=F x:=by intro x;kernel_rfl):zi1 P gl hk ((f,zP us rs F)::T):=fnG hh ha hT pl hf h hs hF
theorem zBY{f:FuncId}{u:U}{rs:List U}{F:List (El u)->Option (El (zaE rs))}(pl:Pl){fn:Func}(hf:P.funcs[f]?=some fn){ls:List (Code×LF)}(hs:zc4 P gl hk ls)
  (ha:(al.all fun f=>zo0 T f)=true:=by rfl) (n:Nat:=1500) (h:(match fn.body with|some b=>qm P pl b|none=>none)=some ls:=by kernel_rfl)
  (h1:∀ l,zao P gl (zfj T) n pl f [.nsl u l] [] (zdp rs)=F l:=by intro l;kernel_rfl) (h2:zao P gl (zfj T) n pl f [.a .qC] [] (zdp rs)=F []:=by kernel_rfl):zi1 P gl hk ((f,zP [.sl u] rs fun x=>F x.1)::T):=zCt hh ha hT pl hf h hs h1 h2
end
def dr:Nat->List PV->List PV
 |0,l=>l
 |n+1,l=>.drop::dr n l
theorem zcR{f:FuncId}{k:XK}:∀ {tab:List (FuncId×XK)},tab.lookup f=some k->(f,k) ∈ tab
 | [],h=>by cases h
 |(g,k')::l,h=>by
  unfold List.lookup at h
  split at h
  ·rename_i he
   cases h
   rw[eq_of_beq he];exact yF
  ·exact yB _ (zcR h)
theorem zo2{tab:List (FuncId×XK)}(h:(tab.all fun p=>((P.funcs[p.1]?).bind (·.body)).isNone)=true):zpH P (zkV tab) []:=by
 refine⟨fun f g hf _=>?_⟩
 unfold zkV at hf
 cases hl:tab.lookup f with
 |none=>rw[hl] at hf;cases hf
 |some k=>
  have:=vt.1 h _ (zcR hl)
  simpa using this
theorem zaL{hk:wJ}{al:List FuncId}(h:zpH P hk al)(f:FuncId)(g:List AV->zg->Option CR):zpH P (zM hk f g) (f::al):=by
 refine⟨fun k g' hk' hn=>?_⟩
 unfold zM at hk'
 simp only[yC,not_or] at hn
 cases hb:ye k f with
 |true=>exact absurd (yg hb) hn.1
 |false=>rw[hb] at hk';exact h.h k g' hk' hn.2
def znb:List AV->zg->Option CR:=fun args h=>match args with
 | []=>some (.ret (.bool true) h)
 |_=>none
theorem zm8{hk:wJ}{f:FuncId}(h:hk f=some znb):zhI P gl hk f (zP [] [.bool] fun _=>some (true,())):=by
 intro R args κ r X margs hc hargs hr hg
 unfold zP at hc
 cases args with
 |nil=>
  simp only[kD,Option.bind] at hc
  cases(show margs=[] from hargs)
  refine⟨_,X,.ret (.bool true) X.h,hc,.refl hr,⟨rfl,rfl,rfl⟩,Ev.all fun n=>?_⟩
  simp only[jU,h,znb]
 |cons=>simp [kD] at hc
end
def Wf:(u:U)->El u->Prop
 |.bool,_=>True
 |.int k,n=>k.min<=n/\(n:Int)<=k.max
 |.u8,_=>True
 |.str,l=>(l:List UInt8).length<=maxLen
 |.sl u,l=>(l:List (El u)).length<=maxLen/\∀ x ∈ (l:List (El u)),Wf u x
 |.pair u v,x=>Wf u x.1/\Wf v x.2
 |.unit,_=>True
def ztM(P:Program):Nat->TypeId->Bool
 |0,_=>false
 |d+1,t=>match P.underlying t with
  |some .bool=>ye (P.cellsOf t) 1
  |some (.int _)=>ye (P.cellsOf t) 1
  |some .string=>ye (P.cellsOf t) 1
  |some (.slice e)=>ye (P.cellsOf t) 1&&yQ 0 (P.cellsOf e)&&ztM P d e
  |some (.struct fs)=>flush P fs.toList 0 (P.cellsOf t)&&fs.toList.all fun f=>ztM P d f.type
  |_=>false
theorem zcx{α:Type}[Inhabited α]{a:Arr α}{l m:List α}:(a++l)++m=a++(l++m):=by
 induction l generalizing a with
 |nil=>rfl
 |cons x l ih=>exact ih (a:=a.push x)
section
variable {P:Program} {B:Nat} {w:World} {H:Type} {enc:TypeId×Value->H} {base:Nat} {held:Bool}
abbrev PhA(h:zg):Nat->Prop:=fun m=>m<h.length
theorem RE.app{h:zg}{u:U}{x:El u}{cs:List AV}(q:RE h (PhA h) u x cs)(E:List Blk):RE (h++E) (PhA (h++E)) u x cs:=
 q.le (fun m hm=>Arr.j7 hm) fun m hm=>by show m<(h++E).length;rw[Arr.ql];have:m<h.length:=hm;omega
theorem VL.ext{G G':Gh}(h:G.ext G'){l:List AV}{us:List Value}(q:VL G l us):VL G' l us:=q.le h.le
def Lays(P:Program)(B:Nat)(w:World)(enc:TypeId×Value->H)(base:Nat)(held:Bool)(u:U)(Q:List Value->Prop):Prop:=
 ∀ (G:Gh) (h:zg) (cs:List Value),HR G B h w->Q cs->∃ (G':Gh) (E:List Blk) (x:El u) (avs:List AV),HR G' B (h++E) w/\G.ext G'/\VL G' avs cs/\RE (h++E) (PhA (h++E)) u x avs/\Wf u x
theorem ziv{d:Nat}(ih:∀ (t:TypeId) (u:U),uOf P d t=some u->ztM P d t=true->Lays P B w enc base held u fun cs=>∃ n d' p,DataW.trod enc P w base (fun _=>true) held n t cs=some (d',p)):
  ∀ (fs:List Field) (u:U),za2 (uOf P d) fs=some u->(fs.all fun f=>ztM P d f.type)=true->∀ (G:Gh) (h:zg) (css:List (List Value)),HR G B h w->css.length=fs.length ->
   (∀ (i:Nat) (f:Field) (cs:List Value),fs[i]?=some f->css[i]?=some cs->∃ n d' p,DataW.trod enc P w base (fun _=>true) held n f.type cs=some (d',p)) ->
   ∃ (G':Gh) (E:List Blk) (x:El u) (avs:List AV),HR G' B (h++E) w/\G.ext G'/\VL G' avs css.flatten/\RE (h++E) (PhA (h++E)) u x avs/\Wf u x
 | [],u,hu,hf,G,h,css,hr,hl,hc=>by
  cases hu
  have:css=[]:=List.length_eq_zero_iff.1 hl
  subst this
  exact⟨G,[],(),[],by rw[Arr.za7];exact hr,Gh.jY _,.nil,rfl,trivial⟩
 | [f],u,hu,hf,G,h,css,hr,hl,hc=>by
  match css,hl with
  | [cs],_=>
   simp only[yZ,List.all_nil,vw] at hf
   unfold za2 at hu
   split at hu
   ·cases hu
   ·obtain⟨G',E,x,avs,h1,h2,h3,h4,h5⟩:=ih _ _ hu hf G h cs hr (hc 0 f cs rfl rfl)
    exact⟨G',E,x,avs,h1,h2,by simpa using h3,h4,h5⟩
 |f::f2::fs,u,hu,hf,G,h,css,hr,hl,hc=>by
  match css,hl with
  |cs::css,hl=>
   simp only[yZ,yc] at hf
   unfold za2 at hu
   split at hu
   ·rename_i u1 u2 _ e1 e2
    cases hu
    obtain⟨G1,E1,x,avs,h1,h2,h3,h4,h5⟩:=ih _ _ e1 hf.1 G h cs hr (hc 0 f cs rfl rfl)
    obtain⟨G2,E2,y,bvs,k1,k2,k3,k4,k5⟩:=ziv ih (f2::fs) u2 e2 (by simp only[yZ,yc];exact hf.2) G1 (h++E1) css h1 (by simpa using hl) fun i f' cs' q1 q2=>hc (i+1) f' cs' (by simpa using q1) (by simpa using q2)
    refine⟨G2,E1++E2,(x,y),avs++bvs,?_,h2.trans k2,?_,?_,h5,k5⟩
    ·rw[<- zcx];exact k1
    ·rw[yG];exact(VL.ext k2 h3).append k3
    ·rw[<- zcx]
     exact⟨avs,bvs,rfl,RE.app h4 E2,k4⟩
   ·cases hu
theorem zl6{e:TypeId}{u:U}(hsz:0<u.sz)(ih:Lays P B w enc base held u fun cs=>∃ n d' p,DataW.trod enc P w base (fun _=>true) held n e cs=some (d',p)):
  ∀ (css:List (List Value)) (G:Gh) (h:zg),HR G B h w->(∀ (i:Nat) (cs:List Value),css[i]?=some cs->∃ n d' p,DataW.trod enc P w base (fun _=>true) held n e cs=some (d',p)) ->
   ∃ (G':Gh) (E:List Blk) (l:List (El u)) (avs:List AV),HR G' B (h++E) w/\G.ext G'/\VL G' avs css.flatten/\RCs (h++E) (PhA (h++E)) u l avs/\l.length=css.length/\∀ x ∈ l,Wf u x
 | [],G,h,hr,hc=>⟨G,[],[],[],by rw[Arr.za7];exact hr,Gh.jY _,.nil,⟨by simp,fun i e hi=>by simp at hi⟩,rfl,by simp⟩
 |cs::css,G,h,hr,hc=>by
  obtain⟨G1,E1,x,avs,h1,h2,h3,h4,h5⟩:=ih G h cs hr (hc 0 cs rfl)
  obtain⟨G2,E2,l,bvs,k1,k2,k3,k4,k5,k6⟩:=zl6 hsz ih css G1 (h++E1) h1 fun i cs' q=>hc (i+1) cs' (by simpa using q)
  have hal:=h4.length
  refine⟨G2,E1++E2,x::l,avs++bvs,by rw[<- zcx];exact k1,h2.trans k2,by rw[yG];exact(VL.ext k2 h3).append k3,⟨?_,fun i e hi=>?_⟩,by simp [k5],fun y hy=>?_⟩
  ·rw[vm,hal,k4.1,yI,yH];omega
  ·rw[<- zcx]
   cases i with
   |zero=>
    simp at hi;subst hi
    have:part u.sz (avs++bvs) 0=avs:=by unfold part;rw[vU,vj,<- hal,vO]
    rw[this];exact RE.app h4 E2
   |succ i=>
    have:part u.sz (avs++bvs) (i+1)=part u.sz bvs i:=by
     unfold part
     rw[show(i+1)*u.sz=avs.length+i*u.sz by rw[hal,yH];omega,<- vu,vP]
    rw[this];exact k4.2 i e (by simpa using hi)
  ·rcases yC.1 hy with rfl|hy
   ·exact h5
   ·exact k6 y hy
theorem ztv:∀ {d:Nat} {t:TypeId} {u:U},uOf P d t=some u->ztM P d t=true->u.sz=P.cellsOf t
 |0,t,u,h,_=>by cases h
 |d+1,t,u,h,hf=>by
  unfold uOf at h
  unfold ztM at hf
  split at h
  ·rename_i hu;rw[hu] at hf;cases h;exact(zj hf).symm
  ·rename_i hu;rw[hu] at hf;cases h;exact(zj hf).symm
  ·rename_i hu;rw[hu] at hf;cases h;exact(zj hf).symm
  ·rename_i hu;rw[hu] at hf;cases h;exact(zj hf).symm
  ·rename_i hu;rw[hu] at hf
   simp only[yc] at hf
   cases hq:uOf P d _ with
   |none=>rw[hq] at h;cases h
   |some v=>rw[hq] at h;cases h;exact(zj hf.1.1).symm
  ·rename_i fs hu;rw[hu] at hf
   simp only[yc] at hf
   have key:∀ (l:List Field) (u:U) (o n:Nat),za2 (uOf P d) l=some u->(l.all fun f=>ztM P d f.type)=true->flush P l o n=true->o+u.sz=n:=by
    intro l
    induction l with
    |nil=>intro u o n h1 h2 h3;cases h1;have:=yg h3;simpa [U.sz] using this
    |cons f l ih=>
     intro u o n h1 h2 h3
     simp only[yZ,yc] at h2
     simp only[flush,yc] at h3
     cases l with
     |nil=>
      unfold za2 at h1
      split at h1
      ·cases h1
      ·have e1:=ztv h1 h2.1
       have:=yg h3.2
       omega
     |cons f2 l=>
      unfold za2 at h1
      split at h1
      ·rename_i u1 u2 _ e1 e2
       cases h1
       have q1:=ztv e1 h2.1
       have q2:=ih _ _ _ e2 h2.2 h3.2
       simp only[U.sz];omega
      ·cases h1
   have:=key _ _ _ _ h hf.2 hf.1
   omega
  ·cases h
theorem ziu(hB:B=w.heap.size)(hz:∃ (b0:Nat) (c:Array Value) (T:TypeId) (fr:Nat×Nat),w.heap[b0]?=some (.cells c T fr)):∀ (m:Nat) (t:TypeId) (u:U),uOf P m t=some u->ztM P m t=true ->
  Lays P B w enc base held u fun cs=>∃ n d' p,DataW.trod enc P w base (fun _=>true) held n t cs=some (d',p)
 |0,t,u,hu,_=>by cases hu
 |m+1,t,u,hu,hf=>by
  intro G h cs hr ⟨n,d,p,ht⟩
  unfold uOf at hu
  unfold ztM at hf
  split at hu
  ·rename_i hund;rw[hund] at hf;cases hu
   obtain⟨b',rfl,e⟩:=DataW.trod_bool hund ht
   exact⟨G,[],b',[.bool b'],by rw[Arr.za7];exact hr,Gh.jY _,.cons (.bool _) .nil,rfl,trivial⟩
  ·rename_i hund;rw[hund] at hf;cases hu
   obtain⟨b,rfl,_,hw⟩:=DataW.trod_int hund ht
   have hb:0<=b/\b<=255:=by simpa [Lit.wf,IntKind.min,IntKind.max,IntKind.signed,IntKind.bits] using hw
   refine⟨G,[],UInt8.ofNat b.toNat,[.int .u8 b],by rw[Arr.za7];exact hr,Gh.jY _,.cons (.int _ _) .nil,?_,trivial⟩
   show[AV.int .u8 b]=[AV.int .u8 _]
   congr 2
   simp only[UInt8.toNat_ofNat']
   omega
  ·rename_i hund;rw[hund] at hf;cases hu
   obtain⟨b,rfl,_,hw⟩:=DataW.trod_int hund ht
   exact⟨G,[],b,[.int _ b],by rw[Arr.za7];exact hr,Gh.jY _,.cons (.int _ _) .nil,rfl,show _/\_ by simpa [Lit.wf] using hw⟩
  ·rename_i hund;rw[hund] at hf;cases hu
   obtain⟨b,rfl,_,hw⟩:=DataW.trod_string hund ht
   exact⟨G,[],b.data.toList,[.str b.data.toList],by rw[Arr.za7];exact hr,Gh.jY _,.cons (.str _) .nil,rfl,by show b.data.toList.length<=maxLen;rw[vC];exact hw⟩
  ·rename_i e hund;rw[hund] at hf
   simp only[yc] at hf
   obtain⟨⟨_,hpos⟩,hfe⟩:=hf
   have hpos:=kS hpos
   cases hq:uOf P m e with
   |none=>rw[hq] at hu;cases hu
   |some v=>
    rw[hq] at hu;cases hu
    have hsz:=ztv hq hfe
    have ih:=ziu hB hz m e v hq hfe
    rcases DataW.trod_slice hund ht with⟨rfl,_⟩|⟨a,len,cap,el,rs,n',rfl,rfl,he,hba,hlc,hcm,hel,hee,hsp,_⟩
    ·exact⟨G,[],[],[.qC],by rw[Arr.za7];exact hr,Gh.jY _,.cons .qC .nil,⟨_,rfl,.inl ⟨rfl,rfl⟩⟩,by show 0<=maxLen;omega,by simp⟩
    ·obtain⟨hrl,hrr⟩:=hsp rfl
     have hcell:∀ i,i<cap->∃ cs',w.cells? base (a.add (i*P.cellsOf e)) (P.cellsOf e)=some cs':=by
      intro i hi
      by_cases hil:i<len
      ·have h0:=hee i hil
       rw[yb (by omega)] at h0
       obtain⟨cs',e1,_⟩:=yo.1 h0
       exact⟨cs',e1⟩
      ·have h0:=hrr (i-len) (by omega)
       rw[yb (by omega),show len+(i-len)=i from by omega] at h0
       obtain⟨cs',e1,_⟩:=yo.1 h0
       exact⟨cs',e1⟩
     rcases vo cap with hc0|hc0
     ·have hl0:len=0:=by omega
      subst hc0;subst hl0
      obtain⟨b0,c,T,fr,hb0⟩:=hz
      have hr2:=hr.zgH (a:=⟨b0,0,none⟩) (xs:=[]) (cs:=[]) (by show b0<B;rw[hB];exact(yj.1 hb0).1) hb0 .nil (fun j u hu=>by simp at hu) (by simp)
      refine⟨_,[.lay []],[],[.sl h.length 0 0 v.sz 0 false],hr2,Gh.zei _ _,.cons ?_ .nil,⟨_,rfl,.inr ⟨h.length,0,0,false,[],rfl,.inl rfl,?_,?_,by simp,fun i e hi=>by simp at hi⟩⟩,by show 0<=maxLen;omega,by simp⟩
      ·exact V.sl0 (r:=⟨b0,0,0,c.size,0⟩) (by rw[<- hr.len,zbX];rfl) (yd _) (yd _) (fun _=>yd _) (by omega)
      ·show h.length<(h++[Blk.lay []]).length;rw[Arr.ql];simp
      ·unfold rd
       rw[Arr.z7 (yd _),vh]
       simp
     ·obtain⟨c0,ec0⟩:=hcell 0 hc0
      obtain⟨c,T,fr,q1,q2,_,_⟩:=zbZ ec0 hpos
      rw[(zaJ a _).1] at q1
      have ha0:a.add (0*P.cellsOf e)=a:=by simp [Addr.add]
      rw[ha0] at q2
      have hrow:∀ i,i<cap->∀ cs',w.cells? base (a.add (i*P.cellsOf e)) (P.cellsOf e)=some cs'->cs'.length=P.cellsOf e/\(∀ (k:Nat) (u:Value),cs'[k]?=some u->c[k+(a.off+i*P.cellsOf e)]?=some u)/\P.cellsOf e+(a.off+i*P.cellsOf e)<=c.size:=by
       intro i hi cs' ec
       obtain⟨c2,T2,fr2,g1,_,g3,g4⟩:=zbZ ec hpos
       rw[(zaJ a _).1,q1] at g1
       cases g1
       rw[(zaJ a _).2] at g3 g4
       exact⟨(zcK ec).1,g3,g4⟩
      have hget:∀ (i:Nat) (cs':List Value),((yy len).map fun i=>(w.cells? base (a.add (i*P.cellsOf e)) (P.cellsOf e)).getD [])[i]?=some cs'->i<len/\w.cells? base (a.add (i*P.cellsOf e)) (P.cellsOf e)=some cs':=by
       intro i cs' e2
       rw[yf,yh] at e2
       obtain⟨j,e3,rfl⟩:=e2
       have hik:i<len:=by have:=(ya.1 e3).1;simpa using this
       rw[yq hik] at e3
       cases e3
       obtain⟨cs',ec⟩:=hcell i (by omega)
       exact⟨hik,by rw[ec];rfl⟩
      obtain⟨G1,E1,l,avs,r1,l1,v1,c1,len1,wf1⟩:=zl6 (by omega) ih ((yy len).map fun i=>(w.cells? base (a.add (i*P.cellsOf e)) (P.cellsOf e)).getD []) G h hr fun i cs' e2=>by
       obtain⟨hik,ec⟩:=hget i cs' e2
       have h0:=hee i hik
       rw[ec,yb (by omega)] at h0
       exact⟨n',_,_,h0⟩
      obtain⟨fl1,fl2⟩:=znA (c:=c) (sz:=P.cellsOf e) (o:=a.off) (css:=(yy len).map fun i=>(w.cells? base (a.add (i*P.cellsOf e)) (P.cellsOf e)).getD []) fun i cs' e2=>by
       obtain⟨hik,ec⟩:=hget i cs' e2
       obtain⟨k1,k2,_⟩:=hrow i (by omega) cs' ec
       exact⟨k1,k2⟩
      have len1:l.length=len:=by rw[len1];simp
      rw[yA,yP] at fl1
      obtain⟨csl,ecl⟩:=hcell (cap-1) (by omega)
      obtain⟨_,_,hend⟩:=hrow (cap-1) (by omega) csl ecl
      have hcapsz:cap*P.cellsOf e=P.cellsOf e+(cap-1)*P.cellsOf e:=by
       obtain⟨k,rfl⟩:∃ k,cap=k+1:=⟨cap-1,by omega⟩
       rw[yH];simp;omega
      have hlensz:len*P.cellsOf e<=cap*P.cellsOf e:=vE _ hlc
      have hlt:a.block<B:=by rw[hB];exact(yj.1 q1).1
      have hxl:avs.length=len*P.cellsOf e:=by rw[<- v1.length,fl1]
      have hr2:=r1.zgH hlt q1 v1 fl2 (by omega)
      refine⟨_,E1++[.lay avs],l,[.sl (h++E1).length 0 len v.sz 0 false],by rw[<- zcx];exact hr2,l1.trans (Gh.zei _ _),.cons ?_ .nil,⟨_,rfl,.inr ⟨(h++E1).length,0,0,false,avs,by rw[len1],.inl rfl,?_,?_,?_,fun i e hi=>?_⟩⟩,by rw[len1];omega,wf1⟩
      ·have hV:=V.sl (G:=G1++[[⟨a.block,0,avs.length,c.size,a.off⟩]]) (loc:=(h++E1).length) (off:=0) (len:=len) (sz:=v.sz) (ver:=0) (cap:=cap) (clip:=false) (r:=⟨a.block,0,avs.length,c.size,a.off⟩) (by rw[<- r1.len,zbX];rfl) (yd _) (by show 0+len*v.sz<=avs.length;rw[hsz];omega) hlc
        (by show 0+a.off-0+cap*v.sz<=c.size;rw[hsz];omega) (fun e=>by cases e) (fun _=>by show avs.length<=0+cap*v.sz;rw[hsz];omega) hcm (by omega)
       obtain⟨ab,ao,as1⟩:=a
       simp only at q2
       subst q2
       simpa using hV
      ·show(h++E1).length<(h++(E1++[Blk.lay avs])).length
       rw[<- zcx,Arr.ql (a:=h++E1)];simp
      ·unfold rd
       rw[<- zcx,Arr.z7 (yd _),vh]
       have:l.length*v.sz=avs.length:=by rw[len1,hxl,hsz]
       simp [this]
      ·rw[len1,hsz,hxl]
      ·rw[<- zcx];exact RE.app (c1.2 i e hi) _
  ·rename_i fs hund;rw[hund] at hf
   simp only[yc] at hf
   obtain⟨ys,n',rfl,he,hlen,hyl,hy⟩:=DataW.trod_struct hund ht
   have hflat:=zgr (cs:=cs) hf.1 hlen (vl _)
   rw[vj] at hflat
   have:=ziv (fun t u h1 h2=>ziu hB hz m t u h1 h2) fs.toList u hu hf.2 G h (fs.toList.map fun f=>(cs.drop f.offset).take (P.cellsOf f.type)) hr (by simp) fun i f cs' e1 e2=>by
    rw[yf,yh] at e2
    obtain⟨f2,g2,rfl⟩:=e2
    rw[e1] at g2;cases g2
    have h0:=hy i f (by simpa using e1)
    have hi:i<ys.length:=by rw[hyl];have:=(ya.1 e1).1;simpa using this
    rw[yb hi] at h0
    exact⟨n',_,_,h0⟩
   rw[hflat] at this
   exact this
  ·cases hu
end
theorem zqM{P:Program}{W:World}{base:Nat}{t:TypeId}{v:Value}{u:U}{d:Nat}(hu:uOf P (d+1) t=some u)(ha:zlp P t=some u.agg)(hv:Value.okWide P W .any base t v){G:Gh}{avs:List AV}(hx:VL G avs v.cells.toList):
  (u.agg=true->V G (.agg avs) v)/\(u.agg=false->∀ x,avs=[x]->V G x v):=by
 refine⟨fun h=>?_,fun h x hxs=>?_⟩
 ·rw[h] at ha
  obtain⟨l,rfl⟩:=zxL ha hv
  exact .agg (by simpa [Value.cells] using hx)
 ·rw[h] at ha
  subst hxs
  cases hc:v.cells.toList with
  |nil=>rw[hc] at hx;cases hx
  |cons y ys=>
   rw[hc] at hx
   cases hx with
   |cons h1 h2=>
    cases h2
    rw[val_one ha hv hc];exact h1
def zAf(n:Nat)(h:zg)(keep:List Nat):GL:=(yy n).map fun g=>match keep.contains g with
 |true=>match h[g]? with
  |some (.lay cs)=>zvQ cs
  |_=>none
 |false=>none
theorem zvW{P:Program}{gl:GL}{n:Nat}{hgl:zg}{keep:List Nat}(h:zAf n hgl keep=gl)(hn:n<=P.globals.size)(E:List Blk):RGl P gl ⟨hgl++E,PhA (hgl++E),[],[]⟩:=by
 intro g cs hg
 rw[<- h] at hg
 unfold zAf at hg
 rw[yf] at hg
 cases hr:(yy n)[g]? with
 |none=>rw[hr] at hg;cases hg
 |some g'=>
  obtain⟨hlt,e⟩:=ya.1 hr
  rw[List.getElem_range] at e
  subst e
  rw[yP] at hlt
  rw[hr] at hg
  simp only[yU,yx] at hg
  split at hg
  ·split at hg
   ·rename_i cells hrow
    have hl:=Arr.lt hrow
    refine⟨by omega,?_,cells,?_,zgE hg⟩
    ·show g<(hgl++E).length;rw[Arr.ql];omega
    ·exact(Arr.j7 hl).trans hrow
   ·cases hg
  ·cases hg
def zoH(P:Program):List TypeId->List U->Bool
 | [],[]=>true
 |t::ts,u::us=>decide (uOf P 6 t=some u)&&ztM P 6 t&&decide (zlp P t=some u.agg)&&zoH P ts us
 |_,_=>false
theorem U.zzY{u:U}(h:u.agg=false):u.sz=1:=by cases u<;>first|rfl|cases h
theorem zl5{P:Program}{B:Nat}{w:World}{H:Type}{enc:TypeId×Value->H}{base:Nat}(hB:B=w.heap.size)(hz:∃ (b0:Nat) (c:Array Value) (T:TypeId) (fr:Nat×Nat),w.heap[b0]?=some (.cells c T fr)):
  ∀ (ts:List TypeId) (us:List U),zoH P ts us=true->∀ (G:Gh) (h:zg) (vs:List Value) (ds:List (DataW H)) (ps:List MemPlace),HR G B h w->DataW.TrodAll enc P w 0 (fun _=>true) true ts vs ds ps ->
   (∀ (j:Nat) t v,ts[j]?=some t->vs[j]?=some v->Value.okWide P w .any base t v) ->
   ∃ (G':Gh) (E:List Blk) (x:El (zaE us)) (margs:List AV),HR G' B (h++E) w/\G.ext G'/\VL G' margs vs/\RVs ⟨h++E,PhA (h++E),[],[]⟩ (jx us x) margs/\Wf (zaE us) x
 | [],us,ha,G,h,vs,ds,ps,hr,ht,hv=>by
  cases us with
  |cons=>cases ha
  |nil=>
   obtain⟨rfl,rfl⟩:=zlj ht
   exact⟨G,[],(),[],by rw[Arr.za7];exact hr,Gh.jY _,.nil,rfl,trivial⟩
 |t::ts,us,ha,G,h,vs,ds,ps,hr,ht,hv=>by
  cases us with
  |nil=>cases ha
  |cons u us=>
   simp only[zoH,yc,decide_eq_true_eq] at ha
   obtain⟨⟨⟨h1,h2⟩,h3⟩,h4⟩:=ha
   obtain⟨v,vs',d,ds',p,q,rfl,rfl,⟨n,h5⟩,h6⟩:=zlk ht
   obtain⟨G1,E1,x,avs,k1,k2,k3,k4,k5⟩:=ziu (enc:=enc) (base:=0) (held:=true) hB hz 6 t u h1 h2 G h _ hr ⟨n,d,p,h5⟩
   obtain⟨a1,a2⟩:=zqM h1 h3 (hv 0 t v rfl rfl) k3
   obtain⟨G2,E2,y,margs,m1,m2,m3,m4,m5⟩:=zl5 hB hz ts us h4 G1 (h++E1) vs' ds' q k1 h6 fun j t' v' e1 e2=>hv (j+1) t' v' (by simpa using e1) (by simpa using e2)
   rw[zcx] at m1 m4
   have k6:=RE.app k4 E2
   rw[zcx] at k6
   obtain⟨b1,b2⟩:=zka (Z:=⟨h++(E1++E2),PhA (h++(E1++E2)),[],[]⟩) rfl rfl k6
   cases hag:u.agg with
   |true=>exact⟨G2,E1++E2,(x,y),.agg avs::margs,m1,k2.trans m2,.cons ((a1 hag).le m2.le) m3,⟨_,_,rfl,b1 hag,m4⟩,k5,m5⟩
   |false=>
    have hl:=k4.length
    rw[U.zzY hag] at hl
    match avs,hl with
    | [a],_=>exact⟨G2,E1++E2,(x,y),a::margs,m1,k2.trans m2,.cons ((a2 hag a rfl).le m2.le) m3,⟨_,_,rfl,b2 hag a rfl,m4⟩,k5,m5⟩
theorem zo7{P:Program}{gl:GL}{ct:Nat->CT}{hk:wJ}{hgl:zg}{Gg:Gh}{W:World}(hmo:P.follows .mixedOrders=true)(hng:zpI P)(hh:HOK P hgl Gg hk)(hL:Laid P hgl Gg W.heap.size W)(hgl2:∀ E:List Blk,RGl P gl ⟨hgl++E,PhA (hgl++E),[],[]⟩)
  (hct:∀ N,zm9 P gl (ct N) hk) {n:Nat} {pl:Nat->Pl} {f:FuncId} {us:List U} {F:Nat->El (zaE us)->Option (El (zaE [.bool]))} (hpl:∀ N fn b,P.funcs[f]?=some fn->fn.body=some b->xx P gl hk (pl N) b) (hkf:hk f=none)
  (hF:∀ N x,zao P gl (ct N) n (pl N) f (jx us x) [] (zdp [.bool])=F N x) {ts:List TypeId} (ha:zoH P ts us=true) {H:Type} {enc:TypeId×Value->H} {base:Nat} {args:Array Value} {ds:List (DataW H)} {ps:List MemPlace}
  (ht:DataW.TrodAll enc P W 0 (fun _=>true) true ts args.toList ds ps) (hv:∀ (j:Nat) t v,ts[j]?=some t->args.toList[j]?=some v->Value.okWide P W .any base t v)
  (hz:∃ (b0:Nat) (c:Array Value) (T:TypeId) (fr:Nat×Nat),W.heap[b0]?=some (.cells c T fr)) (hlaw:∀ x,Wf (zaE us) x->∃ N,F N x=some (true,())):
  Calls P f args W fun e W'=>e=.returned (.bool true)/\zvp W W':=by
 obtain⟨G,E,x,margs,h1,h2,h3,h4,h5⟩:=zl5 (B:=W.heap.size) rfl hz ts us ha Gg hgl args.toList ds ps hL.hr ht hv
 have hRH:RH ⟨hgl++E,PhA (hgl++E),[],[]⟩:=⟨rfl,fun i j m v v' h=>by simp at h,fun i m v h=>by simp at h,fun m h=>h,fun i b o h=>by simp at h,fun i m v b h=>by simp at h⟩
 obtain⟨N,hN⟩:=hlaw x h5
 obtain⟨q,Y,mq,k1,S,k2,n0,k3⟩:=(zcB (hct N) n).2.2.1 (pl N) f (hpl N) _ _ _ _ ⟨hgl++E,PhA (hgl++E),[],[]⟩ margs ((hF N x).trans hN) h4 hRH (hgl2 E)
 have k3:=k3 n0 (yd _)
 cases q with
 |pan v sh=>cases k1
 |ret v sh=>
  cases mq with
  |pan=>cases k2
  |ret xv h'=>
   obtain⟨e1,e2,hv2⟩:=k2
   have hxv:xv=.bool true:=by
    simp only[zdp,unS] at k1
    cases v with
    |a w=>cases w with
     |bool b=>
      simp [kD,zcn,U.agg,SV.cells,dec] at k1
      cases(show xv=_ from hv2)
      have e:=(vp (yR k1)).1
      rw[e]
     |_=>simp [kD,zcn,U.agg,SV.cells,dec] at k1
    |agg=>simp [kD,zcn,U.agg] at k1
    |_=>simp [kD,zcn,U.agg,SV.cells,dec] at k1
   subst hxv
   simp only[jU,hkf] at k3
   have hG:zgm P W.heap.size W G W:=⟨fun g hg=>by
    obtain⟨r,q1,q2⟩:=hL.g g hg
    exact⟨r,h2.le _ _ _ q1,q2⟩,fun _ _=>rfl⟩
   refine(zkR (us:=args.toList) hmo hng (hh _ _ hL) k3 h3 h1 hG).mono fun e W' hcr=>?_
   obtain⟨g1,G',u,g2,g3⟩:=zq6 rfl (fun loc v r hat=>h1.lt _ _ _ hat) hcr
   cases g2
   exact⟨g3,g1⟩
end Go.Sx
namespace Go.Mx
open Go Go.Gx Go.Proofs Go.Shelf Go.RowKit
def zj8:List AV->Option (List (List UInt8))
 | []=>some []
 |x::l=>match x,zj8 l with
  |.str s,some r=>some (s::r)
  |_,_=>none
def zur(h:zg):AV->Option (List (List UInt8))
 |.qC=>some []
 |.sl loc off len 1 ver _=>match rd h loc off ver (off+len) len with
  |some cs=>zj8 cs
  |none=>none
 |_=>none
theorem zef{G:Gh}:∀ {cs:List AV} {ls:List (List UInt8)} {us:List Value},zj8 cs=some ls->VL G cs us->us=ls.map zgh
 | [],ls,us,h,hv=>by cases h;cases hv;rfl
 |x::l,ls,us,h,hv=>by
  simp only[zj8] at h
  split at h
  ·rename_i s r hr
   cases h
   cases hv with
   |cons h1 h2=>rw[zfu h1,zef hr h2];rfl
  ·cases h
theorem zbs{G:Gh}{B:Nat}{h:zg}{w w':World}{v:AV}{u:Value}(hr:HR G B h w)(hb:Below w.heap.size w w')(hv:V G v u):zqC G B w (.ret v h) (.returned u) w':=
 ⟨G,Step.grow hr hb.size hb.block hb.os hb.tape hb.output,u,hv,rfl⟩
theorem znu(w:World)(n q:Nat):Below n w (w.drewN q):=⟨rfl,rfl,rfl,yd _,fun _ _=>rfl⟩
def zcz:Nat:=140737488355328
def zfL:List AV->zg->Option CR:=fun args h=>match args with
 | [x,.str sep]=>match zur h x with
  |some ls=>if(Lib.join ls sep).length<=zcz/\ls.length<=zcz then some (.ret (.str (Lib.join ls sep)) h) else none
  |none=>none
 |_=>none
section
variable {P:Program} {ρ:Ren} {hgl:zg} {Gg:Gh} {B:Nat} {W0:World}
theorem zo5(L:Lays.n156 P ρ)(X:Builder.Extra P ρ){args:List AV}{h:zg}{r:CR}(hg:zfL args h=some r):zi4 P B W0 (ρ.f 156) args h r:=by
 intro G us w hx hr hgl
 unfold zfL at hg
 split at hg
 ·rename_i x sep
  split at hg
  ·rename_i ls hls
   split at hg
   ·rename_i hc
    obtain⟨c1,c2⟩:=hc
    cases hg
    cases hx with
    |cons h1 h2=>cases h2 with
     |cons h3 h4=>
      cases h4
      have hs:=zfu h3
      subst hs
      refine .inl ⟨?_,Go.Proofs.enters_of L.f156 (by kernel_rfl) rfl⟩
      have hmap:(ls.map fun l=>(⟨l.toArray⟩:ByteArray)).map (·.data.toList)=ls:=by
       rw[vq];exact vV _
      have main:∀ (b o c:Nat),ls.length<=c->b<w.heap.size->(∀ (j:Nat) (l:List UInt8),ls[j]?=some l->w.cell? ⟨b,o+j,none⟩=some (zgh l)) ->
        Calls P (ρ.f 156) #[.slice (some ⟨b,o,none⟩) ls.length c,zgh sep] w (zqC G B w (.ret (.str (Lib.join ls sep)) h)):=by
       intro b o c hlc hbw hcells
       have:=Any.strings_Join L X b o c (ls.map fun l=>(⟨l.toArray⟩:ByteArray)) ⟨sep.toArray⟩ w
        (fun j x hj=>by
         rw[yf,yh] at hj
         obtain⟨l,hl,rfl⟩:=hj
         exact hcells j l hl) hbw (by rw[yA];exact c2) (by rw[yA];exact hlc) (by rw[hmap];exact c1)
       rw[hmap,yA] at this
       exact this.mono fun e w' ⟨he,hb⟩=>by subst he;exact zbs hr hb (.str _)
      unfold zur at hls
      split at hls
      ·cases hls
       cases h1
       exact(Any.strings_Join_none L X none 0 ⟨sep.toArray⟩ w).mono fun e w' ⟨he,hw⟩=>by subst he;subst hw;exact zbs hr (.refl _ _) (.str [])
      ·split at hls
       ·rename_i loc off len ver clip _ cs hrd
        cases h1 with
        | @sl _ _ _ _ _ cap _ r g1 g2 g3 g4 g5 g6 g7 g8 g9=>
         obtain⟨us,o1,o2,o3⟩:=qV hr hrd g1 g2 (by omega)
         have hub:=zef hls o1
         have hln:ls.length=len:=by rw[<- o2,hub];simp
         have:=main r.b (off+r.sh-r.lo) cap (by omega) (hr.lt _ _ _ g1) (fun j l hj=>o3 j _ (by rw[hub];simp [hj]))
         rw[hln] at this
         exact this
        | @sl0 _ _ _ _ a _ r g1 g2 g3 g6 g9=>
         obtain⟨us,o1,o2,o3⟩:=qV hr hrd g1 g2 (by omega)
         have hub:=zef hls o1
         have h0:us=[]:=yE o2
         rw[h0] at hub
         obtain rfl:ls=[]:=by
          cases ls with
          |nil=>rfl
          |cons=>simp at hub
         exact(Any.strings_Join_none L X (some a) 0 ⟨sep.toArray⟩ w).mono fun e w' ⟨he,hw⟩=>by subst he;subst hw;exact zbs hr (.refl _ _) (.str [])
       ·cases hls
      ·cases hls
   ·cases hg
  ·cases hg
 ·cases hg
def zqG(B:Nat)(W0:World)(g:Nat):Prop:=∀ w:World,(∀ b,b<B->w.heap[b]?=W0.heap[b]?)->∃ m,w.cell? ⟨g,0,none⟩=some (.int .i64 m)
def zqF(B:Nat)(W0:World)(g:Nat):Prop:=∀ w:World,(∀ b,b<B->w.heap[b]?=W0.heap[b]?)->∃ ev,w.cell? ⟨g,0,none⟩=some ev/\(ev=.nilIface\/∃ te pe,ev=.iface te pe)
theorem Laid.cell(hL:Laid P hgl Gg B W0){g:Nat}(hg:g<P.globals.size){x:AV}(hb:hgl[g]?=some (.lay [x])):∃ u,V Gg x u/\∀ w:World,(∀ b,b<B->w.heap[b]?=W0.heap[b]?)->w.cell? ⟨g,0,none⟩=some u:=by
 obtain⟨r,e1,e2,e3,e4⟩:=hL.g g hg
 obtain⟨u,o1,hcell⟩:=zrF hL.hr hb e1
 rw[e2,e4] at hcell
 have hlt:g<B:=e2 ▸ hL.low _ _ _ e1
 exact⟨u,o1,fun w hw=>by rw[<- hcell];simp only[World.cell?];rw[hw g hlt]⟩
theorem Laid.iv(hL:Laid P hgl Gg B W0){g:Nat}(hg:g<P.globals.size){lo hi:Int}(hb:hgl[g]?=some (.lay [.iv lo hi])):zqG B W0 g:=fun w hw=>by
 obtain⟨u,h1,h2⟩:=hL.cell hg hb
 cases h1
 exact⟨_,h2 w hw⟩
theorem Laid.opq(hL:Laid P hgl Gg B W0){g:Nat}(hg:g<P.globals.size)(hb:hgl[g]?=some (.lay [.opq])):zqF B W0 g:=fun w hw=>by
 obtain⟨u,h1,h2⟩:=hL.cell hg hb
 cases h1
 exact⟨_,h2 w hw,.inr ⟨_,_,rfl⟩⟩
def mbs(h:zg):AV->Option (List UInt8)
 |.qC=>some []
 |.sl loc off len 1 ver _=>match rd h loc off ver (off+len) len with
  |some cs=>zb9 cs
  |none=>none
 |_=>none
theorem zh8(l:List UInt8):Lib.bytesOf (l.map fun c=>(c.toNat:Int))=l:=by
 unfold Lib.bytesOf
 rw[vq]
 conv=>rhs;rw[<- vV l]
 exact vF fun c _=>by simp
theorem zmd{G:Gh}{h:zg}{w:World}{x:AV}{u:Value}{l:List UInt8}(hr:HR G B h w)(he:mbs h x=some l)(hx:V G x u):
  (u=.slice none 0 0/\l=[])\/∃ a c,u=.slice (some a) l.length c/\l.length<=c/\∀ i,i<l.length->w.cell? (a.add i)=some (.int .u8 ((l.map fun c=>(c.toNat:Int)).getD i 0)):=by
 unfold mbs at he
 split at he
 ·cases he;cases hx;exact .inl ⟨rfl,rfl⟩
 ·split at he
  ·rename_i loc off len ver clip _ cs hrd
   cases hx with
   | @sl _ _ _ _ _ cap _ r g1 g2 g3 g4 g5 g6 g7 g8 g9=>
    obtain⟨us,o1,o2,o3⟩:=qV hr hrd g1 g2 (by omega)
    have hub:=wc he o1
    have hln:l.length=len:=by rw[<- o2,hub];simp
    refine .inr ⟨⟨r.b,off+r.sh-r.lo,none⟩,cap,by rw[hln],by omega,fun i hi=>?_⟩
    rw[Addr.add_lit]
    refine o3 i _ ?_
    rw[hub,yf,yb hi,List.getD_eq_getElem?_getD,yf,yb hi]
    rfl
   | @sl0 _ _ _ _ o _ r g1 g2 g3 g6 g9=>
    obtain⟨us,o1,o2,o3⟩:=qV hr hrd g1 g2 (by omega)
    have hub:=wc he o1
    obtain rfl:l=[]:=by
     have:us=[]:=yE o2
     rw[this] at hub
     cases l with
     |nil=>rfl
     |cons=>simp at hub
    exact .inr ⟨o,0,rfl,yd _,fun i hi=>by simp at hi⟩
  ·cases he
 ·cases he
def zdz:List AV->zg->Option CR:=fun args h=>match args with
 | [x,y]=>match mbs h x,mbs h y with
  |some a,some b=>if 0<b.length/\a.length<4294967281/\b.length<4294967281 then some (.ret (.int .i64 (Lib.index a b)) h) else none
  |_,_=>none
 |_=>none
theorem zlU(L:Lays.n185 P ρ)(hm:zqG B W0 (ρ.g 1)){args:List AV}{h:zg}{r:CR}(hg:zdz args h=some r):zi4 P B W0 (ρ.f 185) args h r:=by
 intro G us w hx hr hgl
 unfold zdz at hg
 split at hg
 ·rename_i x y
  split at hg
  ·rename_i a b h1 h2
   split at hg
   ·rename_i hc
    obtain⟨c0,c1,c2⟩:=hc
    cases hg
    cases hx with
    |cons x1 x2=>cases x2 with
     |cons x3 x4=>
      cases x4
      refine .inl ⟨?_,Go.Proofs.enters_of L.f185 (by kernel_rfl) rfl⟩
      obtain⟨m,hcell⟩:=hm w hgl.low
      ·rcases zmd hr h2 x3 with⟨_,rfl⟩|⟨a2,k2,rfl,hk2,hcells2⟩
       ·simp at c0
       ·rcases zmd hr h1 x1 with⟨rfl,rfl⟩|⟨a1,k1,rfl,hk1,hcells1⟩
        ·refine(Any.bytes_Index_nil L (some a2) b.length k2 w (by omega) (fun e=>?_)).mono fun e w' ⟨he,hw⟩=>?_
         ·have h0:=hcells2 0 c0
          have e2:=Lib.plain_of_cell (by simpa [Addr.add] using h0)
          obtain⟨b2,o2,s2⟩:=a2
          simp only[Addr.mk.injEq,true_and] at e2
          subst e2
          exact⟨b2,o2,_,rfl,by simpa [Addr.add] using h0⟩
         ·subst hw
          rw[if_neg (by omega)] at he
          subst he
          have:Lib.index [] b=-1:=by
           cases b with
           |nil=>simp at c0
           |cons=>rfl
          rw[this]
          exact zbs hr (.refl _ _) (.int _ _)
        ·have:=Any.bytes_Index_at L a1 a2 a.length k1 b.length k2 (a.map fun c=>(c.toNat:Int)) (b.map fun c=>(c.toNat:Int)) m w (by simp) (by simp)
          (fun z hz=>by obtain⟨c,_,rfl⟩:=vA.1 hz;exact⟨by omega,by have:=c.toNat_lt;omega⟩)
          (fun z hz=>by obtain⟨c,_,rfl⟩:=vA.1 hz;exact⟨by omega,by have:=c.toNat_lt;omega⟩) hcells1 hcells2 hk1 c1 (by omega) hcell
         rw[zh8,zh8] at this
         exact this.mono fun e w' ⟨he,q,hw⟩=>by subst he;subst hw;exact zbs hr (znu _ _ _) (.int _ _)
   ·cases hg
  ·cases hg
 ·cases hg
def zvS:Lib.NumEnd Nat->AV
 |.ok u=>.tup [.int .u64 u,.zer]
 |Go.Lib.NumEnd.syntax=>.tup [.int .u64 0,.opq]
 |.range=>.tup [.int .u64 4294967295,.opq]
def zg4:List AV->zg->Option CR:=fun args h=>match args with
 | [.str s,.int .i64 m,.int .i64 n]=>if m=10/\n=32/\s.length<=281474976710656 then some (.ret (zvS (Lib.parseUintB 32 s)) h) else none
 |_=>none
theorem zkj{G:Gh}{h:zg}{w w':World}{t:TypeId}{s:ByteArray}{v:AV}{u:Value}(hr:HR G B h w)(hw:w'=w\/w'=Lib.bytesWorld w t s)(hv:V G v u):zqC G B w (.ret v h) (.returned u) w':=by
 rcases hw with rfl|rfl
 ·exact zbs hr (.refl _ _) hv
 ·exact zbs hr (Lib.bytesWorld_below _ _ _) hv
theorem zmy(L:LaysPu.n14 P ρ)(hg0:zqF B W0 (ρ.g 0))(hg1:zqF B W0 (ρ.g 1)){args:List AV}{h:zg}{r:CR}(hg:zg4 args h=some r):zi4 P B W0 (ρ.f 14) args h r:=by
 intro G us w hx hr hgl
 unfold zg4 at hg
 split at hg
 ·rename_i s m n
  split at hg
  ·rename_i hc
   obtain⟨rfl,rfl,hs⟩:=hc
   cases hg
   cases hx with
   |cons x1 x2=>cases x2 with
    |cons x3 x4=>cases x4 with
     |cons x5 x6=>
      cases x6
      have k1:=zfu x1;have k2:=zai x3;have k3:=zai x5
      subst k1;subst k2;subst k3
      refine .inl ⟨?_,Go.Proofs.enters_of L.f14 (by kernel_rfl) rfl⟩
      rcases hp:Lib.parseUintB 32 s with u|_|_
      ·refine(Any.strconv_ParseUint_10_at32_ok L ⟨s.toArray⟩ (by show s.length<=_;omega) u hp w).mono fun e w' ⟨he,hw⟩=>?_
       subst he
       exact zkj hr hw (.tup (.cons (.int _ _) (.cons .zer .nil)))
      ·obtain⟨ev,q1,q2⟩:=hg0 w hgl.low
       refine(Any.strconv_ParseUint_10_at32_syntax L ⟨s.toArray⟩ hs hp ev w q1 q2).mono fun e w' ⟨N,he,_,_,hw⟩=>?_
       subst he
       exact zbs hr hw (.tup (.cons (.int _ _) (.cons (.opq _ _) .nil)))
      ·obtain⟨ev,q1,q2⟩:=hg1 w hgl.low
       refine(Any.strconv_ParseUint_10_at32_range L ⟨s.toArray⟩ hs hp ev w q1 q2).mono fun e w' ⟨N,he,_,_,hw⟩=>?_
       subst he
       exact zbs hr hw (.tup (.cons (.int _ _) (.cons (.opq _ _) .nil)))
  ·cases hg
 ·cases hg
def wN(s sep:List UInt8):List (List UInt8):=(Lib.splitB ⟨sep.toArray⟩ 0 (Lib.countB ⟨s.toArray⟩ ⟨sep.toArray⟩) ⟨s.toArray⟩).map (·.data.toList)
def zeJ(e:TypeId):List AV->zg->Option CR:=fun args h=>match args with
 | [.str s,.str sep]=>if 0<sep.length/\s.length<4294967281 then some (.ret (.sl h.length 0 (wN s sep).length 1 0 false) (zd5 h ((wN s sep).map .str) e)) else none
 |_=>none
theorem zmR(L:Lays.n146 P ρ)(hi9:(P.info? (ρ.t 9)).map (fun i=>(i.zero,i.size,i.bytes))=some (some (.string ByteArray.empty),1,16))(hm:zqG B W0 (ρ.g 1)){args:List AV}{h:zg}{r:CR}(hg:zeJ (ρ.t 9) args h=some r):zi4 P B W0 (ρ.f 146) args h r:=by
 intro G us w hx hr hgl
 unfold zeJ at hg
 split at hg
 ·rename_i s sep
  ·split at hg
   ·rename_i hc
    obtain⟨c0,c1⟩:=hc
    cases hg
    cases hx with
    |cons x1 x2=>cases x2 with
     |cons x3 x4=>
      cases x4
      have k1:=zfu x1;have k2:=zfu x3
      subst k1;subst k2
      refine .inl ⟨?_,Go.Proofs.enters_of L.f146 (by kernel_rfl) rfl⟩
      obtain⟨m,hcell⟩:=hm w hgl.low
      ·have h1:1<=(⟨sep.toArray⟩:ByteArray).size:=c0
       have hlen:=Lib.splitB_all ⟨sep.toArray⟩ h1 0 _ ⟨s.toArray⟩ rfl
       refine(Any.strings_Split L hi9 ⟨s.toArray⟩ ⟨sep.toArray⟩ m w (by show s.length<_;omega) hcell h1).mono fun e w' ⟨he,hw⟩=>?_
       subst he
       have hln:(wN s sep).length=Lib.countB ⟨s.toArray⟩ ⟨sep.toArray⟩+1:=by unfold wN;rw[yA,hlen]
       have hcl:Lib.countB ⟨s.toArray⟩ ⟨sep.toArray⟩<=s.length:=Lib.countB_le ⟨sep.toArray⟩ h1 (⟨s.toArray⟩:ByteArray).size ⟨s.toArray⟩ (yd _)
       have hvs:(Lib.splitB ⟨sep.toArray⟩ 0 (Lib.countB ⟨s.toArray⟩ ⟨sep.toArray⟩) ⟨s.toArray⟩).map Value.string=(wN s sep).map zgh:=by
        unfold wN
        rw[vq]
        exact vF fun b _=>rfl
       rw[hvs] at hw
       have hvl:∀ {G:Gh} (l:List (List UInt8)),VL G (l.map .str) (l.map zgh):=fun {G} l=>by
        induction l with
        |nil=>exact .nil
        |cons x l ih=>exact .cons (.str _) ih
       have hS:=Step.newRow (c:=((wN s sep).map zgh).toArray) (T:=ρ.t 9) (w':=w.alloc (.cells ((wN s sep).map zgh).toArray (ρ.t 9))) hr (hvl (wN s sep))
        (fun p hp=>by simp)
        (heap_alloc_new w _) (by simp) (fun b hb=>(zfs.alloc [] w _).block b hb (by simp)) rfl rfl rfl
       subst hw
       refine⟨_,hS,_,?_,rfl⟩
       rw[<- hr.len,<- hln]
       exact .sl (r:=⟨w.heap.size,0,((wN s sep).map AV.str).length,_,0⟩) (by rw[zbX];rfl) (yd _) (by simp) (yd _) (by simp) (fun e=>by cases e) (fun _=>by simp) (by rw[hln];simp only[maxLen];omega) (by omega)
   ·cases hg
 ·cases hg
end
end Go.Mx
namespace Go.Sx
open Go Go.Gx Go.Mx
variable [kF]
def zpq(v:SV)(h:SH):Option (List UInt8):=match v with
 |.a (.str l)=>some l
 |v=>reads .u8 v h
theorem zhi(l:List UInt8):zb9 (l.map fun b=>AV.int .u8 (b.toNat:Int))=some l:=zfh l
theorem RCs.u8{h:zg}{Φ:Nat->Prop}:∀ {l:List UInt8} {cs:List AV},RCs h Φ .u8 l cs->cs=l.map fun b=>AV.int .u8 (b.toNat:Int):=by
 intro l cs q
 refine yN fun i=>?_
 obtain⟨q1,q2⟩:=q
 have hl:cs.length=l.length:=by rw[q1];exact yM _
 rw[yf]
 cases hi:l[i]? with
 |none=>
  rw[yw] at hi
  rw[yw.2 (by omega)];rfl
 |some e=>
  have h1:=q2 i e hi
  have hlt:=(ya.1 hi).1
  have h2:part 1 cs i=[AV.int .u8 (e.toNat:Int)]:=h1
  rw[jE,yM,ym (by omega)] at h2
  simp only[yV,vQ,vD,and_true] at h2
  rw[yb (by omega),h2];rfl
theorem zg7{X:Gst}(hr:RH X){v:SV}{x:AV}{l:List UInt8}(hv:RV X v x)(h:zpq v X.sh=some l):zg0 X.h x=some l:=by
 unfold zpq at h
 split at h
 ·cases h;cases(show x=_ from hv);rfl
 ·rcases zb7 hr hv h with⟨rfl,rfl⟩|⟨m,off,ver,clip,cs,rfl,q1,q2⟩
  ·rfl
  ·have e:U.u8.sz=1:=rfl
   rw[e,yM] at q1
   rw[e]
   simp only[zg0,q1]
   rw[RCs.u8 q2]
   exact zhi l
def zjy:CF:=fun R args h κ=>match args with
 | [v,.u8 c]=>match zpq v h with
  |some l=>κ (.ret (.a (.int .i64 (ke c l 0))) h)
  |none=>none
 |_=>none
def zoQ:CF:=fun R args h κ=>match args with
 | [v,.u8 c]=>match zpq v h with
  |some l=>κ (.ret (.a (.int .i64 (Go.Lib.countByte l c))) h)
  |none=>none
 |_=>none
def zuK:CF:=fun R args h κ=>match args with
 | [.ptr loc off lim]=>κ (.ret (.ptr loc off lim) h)
 |_=>none
theorem ztu(c:UInt8):((c.toNat:Int).toNat).toUInt8=c:=by simp
section
variable {P:Program} {gl:GL} {hk:wJ} {f:FuncId}
theorem zcm(h:hk f=some (mx .indexByte)):zhI P gl hk f zjy:=by
 intro R args κ r X margs hc hargs hr hg
 unfold zjy at hc
 split at hc
 ·rename_i v c
  obtain⟨x,t,rfl,q1,y,t2,rfl,q2,q3⟩:=hargs
  cases(show t2=[] from q3)
  cases(show y=_ from q2)
  split at hc
  ·rename_i l hl
   refine⟨_,X,.ret (.int .i64 (ke c l 0)) X.h,hc,.refl hr,⟨rfl,rfl,rfl⟩,Ev.all fun n=>?_⟩
   simp only[jU,h,mx,zg7 hr q1 hl,ztu]
  ·cases hc
 ·cases hc
theorem ziK(h:hk f=some (mx .same)):zhI P gl hk f zuK:=by
 intro R args κ r X margs hc hargs hr hg
 unfold zuK at hc
 split at hc
 ·obtain⟨x,t,rfl,q1,q3⟩:=hargs
  cases(show t=[] from q3)
  refine⟨_,X,.ret x X.h,hc,.refl hr,⟨rfl,rfl,q1⟩,Ev.all fun n=>?_⟩
  simp only[jU,h,mx]
 ·cases hc
theorem zgU(h:hk f=some (mx .count)):zhI P gl hk f zoQ:=by
 intro R args κ r X margs hc hargs hr hg
 unfold zoQ at hc
 split at hc
 ·rename_i v c
  obtain⟨x,t,rfl,q1,y,t2,rfl,q2,q3⟩:=hargs
  cases(show t2=[] from q3)
  cases(show y=_ from q2)
  split at hc
  ·rename_i l hl
   refine⟨_,X,.ret (.int .i64 (Go.Lib.countByte l c)) X.h,hc,.refl hr,⟨rfl,rfl,rfl⟩,Ev.all fun n=>?_⟩
   simp only[jU,h,mx,zg7 hr q1 hl,ztu]
  ·cases hc
 ·cases hc
theorem RCs.strs{h:zg}{Φ:Nat->Prop}{l:List (List UInt8)}{cs:List AV}(q:RCs h Φ .str l cs):cs=l.map AV.str:=by
 refine yN fun i=>?_
 obtain⟨q1,q2⟩:=q
 have hl:cs.length=l.length:=by rw[q1];exact yM _
 rw[yf]
 cases hi:l[i]? with
 |none=>
  rw[yw] at hi
  rw[yw.2 (by omega)];rfl
 |some e=>
  have h1:=q2 i e hi
  have hlt:=(ya.1 hi).1
  have h2:part 1 cs i=[AV.str e]:=h1
  rw[jE,yM,ym (by omega)] at h2
  simp only[yV,vQ,vD,and_true] at h2
  rw[yb (by omega),h2];rfl
theorem zqv(l:List (List UInt8)):zj8 (l.map AV.str)=some l:=by
 induction l with
 |nil=>rfl
 |cons b l ih=>simp [zj8,ih]
theorem zus{X:Gst}(hr:RH X){v:SV}{x:AV}{l:List (List UInt8)}(hv:RV X v x)(h:reads .str v X.sh=some l):zur X.h x=some l:=by
 rcases zb7 hr hv h with⟨rfl,rfl⟩|⟨m,off,ver,clip,cs,rfl,q1,q2⟩
 ·rfl
 ·have e:U.str.sz=1:=rfl
  rw[e,yM] at q1
  rw[e]
  simp only[zur,q1]
  rw[RCs.strs q2]
  exact zqv l
theorem zvM{X:Gst}(hr:RH X){v:SV}{x:AV}{l:List UInt8}(hv:RV X v x)(h:reads .u8 v X.sh=some l):mbs X.h x=some l:=by
 rcases zb7 hr hv h with⟨rfl,rfl⟩|⟨m,off,ver,clip,cs,rfl,q1,q2⟩
 ·rfl
 ·have e:U.u8.sz=1:=rfl
  rw[e,yM] at q1
  rw[e]
  simp only[mbs,q1]
  rw[RCs.u8 q2]
  exact zhi l
def zt4:CF:=fun R args h κ=>match args with
 | [v,.a (.str sep)]=>match reads .str v h with
  |some ls=>cond (yJ (Go.Lib.join ls sep).length zcz&&yJ ls.length zcz) (κ (.ret (.a (.str (Go.Lib.join ls sep))) h)) none
  |none=>none
 |_=>none
def zd1:Nat:=4294967280
def zo3:CF:=fun R args h κ=>match args with
 | [x,y]=>match reads .u8 x h,reads .u8 y h with
  |some a,some b=>cond (yQ 0 b.length&&(yJ a.length zd1&&yJ b.length zd1)) (κ (.ret (.a (.int .i64 (Go.Lib.index a b))) h)) none
  |_,_=>none
 |_=>none
def zsm{R:Type}(p:Go.Lib.NumEnd Nat)(a:Int->R)(b c:R):R:=match p with
 |.ok u=>a (u:Int)
 |Go.Lib.NumEnd.syntax=>b
 |.range=>c
def zp3:Nat:=281474976710656
def zpj:CF:=fun R args h κ=>match args with
 | [.a (.str s),.a (.int .i64 m),.a (.int .i64 n)]=>match decide (m=10),decide (n=32) with
  |true,true=>cond (yJ s.length zp3) (zsm (Go.Lib.parseUintB 32 s) (fun u=>κ (.ret (.tup [.a (.int .u64 u),.a .zer]) h)) (κ (.ret (.tup [.a (.int .u64 0),.a .opq]) h)) (κ (.ret (.tup [.a (.int .u64 4294967295),.a .opq]) h))) none
  |_,_=>none
 |_=>none
def zpx:CF:=fun R args h κ=>match args with
 | [.a (.str s),.a (.str sep)]=>cond (yQ 0 sep.length&&yJ s.length zd1) (κ (.ret (.gs h.length 0) (h++[.seq .str (wN s sep) 0 0]))) none
 |_=>none
section
variable {g g0 g1:Nat} {cs:List AV}
theorem ziq(h:hk f=some zfL):zhI P gl hk f zt4:=by
 intro R args κ r X margs hc hargs hr hg
 unfold zt4 at hc
 split at hc
 ·rename_i v sep
  obtain⟨x,t,rfl,q1,y,t2,rfl,q2,q3⟩:=hargs
  cases(show t2=[] from q3)
  cases(show y=_ from q2)
  split at hc
  ·rename_i l hl
   cases hb:(yJ (Go.Lib.join l sep).length zcz&&yJ l.length zcz) with
   |false=>rw[hb] at hc;cases hc
   |true=>
    rw[hb] at hc
    rw[yc] at hb
    refine⟨_,X,.ret (.str (Go.Lib.join l sep)) X.h,hc,.refl hr,⟨rfl,rfl,rfl⟩,Ev.all fun n=>?_⟩
    simp only[jU,h,zfL,zus hr q1 hl]
    rw[if_pos ⟨yk hb.1,yk hb.2⟩]
  ·cases hc
 ·cases hc
theorem zgY(h:hk f=some zdz):zhI P gl hk f zo3:=by
 intro R args κ r X margs hc hargs hr hg
 unfold zo3 at hc
 split at hc
 ·rename_i v v2
  obtain⟨x,t,rfl,q1,y,t2,rfl,q2,q3⟩:=hargs
  cases(show t2=[] from q3)
  split at hc
  ·rename_i a b h1 h2
   cases hb:(yQ 0 b.length&&(yJ a.length zd1&&yJ b.length zd1)) with
   |false=>rw[hb] at hc;cases hc
   |true=>
    rw[hb] at hc
    rw[yc,yc] at hb
    have k1:=yk hb.1
    have k2:=yk hb.2.1
    have k3:=yk hb.2.2
    unfold zd1 at k2 k3
    refine⟨_,X,.ret (.int .i64 (Go.Lib.index a b)) X.h,hc,.refl hr,⟨rfl,rfl,rfl⟩,Ev.all fun n=>?_⟩
    simp only[jU,h,zdz,zvM hr q1 h1,zvM hr q2 h2]
    rw[if_pos ⟨by omega,by omega,by omega⟩]
  ·cases hc
 ·cases hc
theorem zg3(h:hk f=some zg4):zhI P gl hk f zpj:=by
 intro R args κ r X margs hc hargs hr hg
 unfold zpj at hc
 split at hc
 ·rename_i s m n
  obtain⟨x,t,rfl,q1,y,t2,rfl,q2,z,t3,rfl,q3,q4⟩:=hargs
  cases(show t3=[] from q4)
  cases(show x=_ from q1);cases(show y=_ from q2);cases(show z=_ from q3)
  split at hc
  ·rename_i e1 e2
   have e1:=of_decide_eq_true e1
   have e2:=of_decide_eq_true e2
   subst e1;subst e2
   cases hb:yJ s.length zp3 with
   |false=>rw[hb] at hc;cases hc
   |true=>
    rw[hb] at hc
    have k1:=yk hb
    unfold zp3 at k1
    have hm:∀ n,jU P hk (jO P hk n) (.f f) [.str s,.int .i64 10,.int .i64 32] X.h=some (.ret (zvS (Go.Lib.parseUintB 32 s)) X.h):=fun n=>by
     simp [jU,h,zg4,k1]
    simp only[cond_true] at hc
    rcases hp:Go.Lib.parseUintB 32 s with u|_|_
    ·rw[hp] at hc
     exact⟨_,X,.ret (.tup [.int .u64 (u:Int),.zer]) X.h,hc,.refl hr,⟨rfl,rfl,_,rfl,_,_,rfl,rfl,_,_,rfl,rfl,rfl⟩,Ev.all fun n=>by rw[hm n,hp];rfl⟩
    ·rw[hp] at hc
     exact⟨_,X,.ret (.tup [.int .u64 0,.opq]) X.h,hc,.refl hr,⟨rfl,rfl,_,rfl,_,_,rfl,rfl,_,_,rfl,rfl,rfl⟩,Ev.all fun n=>by rw[hm n,hp];rfl⟩
    ·rw[hp] at hc
     exact⟨_,X,.ret (.tup [.int .u64 4294967295,.opq]) X.h,hc,.refl hr,⟨rfl,rfl,_,rfl,_,_,rfl,rfl,_,_,rfl,rfl,rfl⟩,Ev.all fun n=>by rw[hm n,hp];rfl⟩
  ·cases hc
 ·cases hc
theorem RCs.zxf{h:zg}{Φ:Nat->Prop}(l:List (List UInt8)):RCs h Φ .str l (l.map AV.str):=by
 refine⟨by simp [U.sz],fun i e hi=>?_⟩
 have hi':(l.map AV.str)[i]?=some (AV.str e):=by rw[yf,hi];rfl
 obtain⟨hlt,e2⟩:=ya.1 hi'
 rw[jE,show i*U.str.sz=i from yM i,show U.str.sz=1 from rfl,ym hlt,e2];rfl
theorem zha{e:TypeId}(h:hk f=some (zeJ e)):zhI P gl hk f zpx:=by
 intro R args κ r X margs hc hargs hr hg
 unfold zpx at hc
 split at hc
 ·rename_i s sep
  obtain⟨x,t,rfl,q1,y,t2,rfl,q2,q3⟩:=hargs
  cases(show t2=[] from q3)
  cases(show x=_ from q1);cases(show y=_ from q2)
  cases hb:(yQ 0 sep.length&&yJ s.length zd1) with
  |false=>rw[hb] at hc;cases hc
  |true=>
   rw[hb] at hc
   rw[yc] at hb
   have k1:=yk hb.1
   have k2:=yk hb.2
   unfold zd1 at k2
   obtain⟨Y,h5,h6,h7,h8⟩:=zes hr (u:=.str) (l:=wN s sep) (tt:=some e) (hc:=RCs.zxf _)
   refine⟨_,Y,.ret (.sl X.h.length 0 (wN s sep).length 1 0 false) (zd5 X.h ((wN s sep).map .str) e),hc,h5,⟨h6,h7,h8⟩,Ev.all fun n=>?_⟩
   simp only[jU,h,zeJ]
   rw[if_pos ⟨by omega,by omega⟩]
 ·cases hc
end
end
end Go.Sx
namespace Go.Mx
open Go Go.Gx

end Go.Mx
