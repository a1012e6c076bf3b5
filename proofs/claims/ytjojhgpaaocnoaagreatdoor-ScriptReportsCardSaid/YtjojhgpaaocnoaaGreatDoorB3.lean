/- Machines and laws 3. -/
import Derived.Test.YtjojhgpaaocnoaaGreatDoorB2
import Derived.RecoverIn
import Derived.Lib.MakeNoZero
import Derived.Laws.Externs
import Derived.Laws.LoneSync
import Derived.Lib.Bytealg
set_option linter.unusedVariables false
set_option linter.unusedSimpArgs false
set_option linter.unusedSectionVars false
namespace Go.Mx
open Go Go.Gx
mutual
def AV.beq:AV->AV->Bool
 |.bool a,y=>match y with|.bool b=>a==b|_=>false
 |.int k a,y=>match y with|.int k' b=>decide (k=k')&&decide (a=b)|_=>false
 |.str a,y=>match y with|.str b=>a==b|_=>false
 |.zbf,y=>match y with|.zbf=>true|_=>false
 |.ptr l o v m,y=>match y with|.ptr l' o' v' m'=>Nat.beq l l'&&Nat.beq o o'&&Nat.beq v v'&&Nat.beq m m' | _=>false
 |.qj,y=>match y with|.qj=>true|_=>false
 |.sl l o n z v c,y=>match y with|.sl l' o' n' z' v' c'=>Nat.beq l l'&&Nat.beq o o'&&Nat.beq n n'&&Nat.beq z z'&&Nat.beq v v'&&c==c' | _=>false
 |.zcd,y=>match y with|.zcd=>true|_=>false
 |.map l,y=>match y with|.map l'=>Nat.beq l l' | _=>false
 |.zeX,y=>match y with|.zeX=>true|_=>false
 |.fn f a c,y=>match y with|.fn f' a' c'=>Nat.beq f f'&&AV.zgg a a'&&AV.zgg c c' | _=>false
 |.xQ,y=>match y with|.xQ=>true|_=>false
 |.ifc t v,y=>match y with|.ifc t' v'=>Nat.beq t t'&&AV.beq v v' | _=>false
 |.opq,y=>match y with|.opq=>true|_=>false
 |.agg l,y=>match y with|.agg l'=>AV.zgg l l' | _=>false
 |.tup l,y=>match y with|.tup l'=>AV.zgg l l' | _=>false
 |.any,y=>match y with|.any=>true|_=>false
 |.iv a b,y=>match y with|.iv a' b'=>decide (a=a')&&decide (b=b')|_=>false
 |.yld a,y=>match y with|.yld a'=>Nat.beq a a' | _=>false
 |.vs l n,y=>match y with|.vs l' n'=>AV.zgg l l'&&Nat.beq n n' | _=>false
def AV.zgg:List AV->List AV->Bool
 | [],y=>match y with | []=>true|_=>false
 |x::l,y=>match y with|x'::l'=>AV.beq x x'&&AV.zgg l l' | _=>false
end
mutual
theorem AV.beq_eq:∀ (x y:AV),x.beq y=true->x=y
 |.bool a,y,h=>by cases y<;>simp_all [AV.beq]
 |.int k a,y,h=>by cases y<;>simp_all [AV.beq]
 |.str a,y,h=>by cases y<;>simp_all [AV.beq]
 |.zbf,y,h=>by cases y<;>simp_all [AV.beq]
 |.ptr l o v m,y,h=>by cases y<;>simp_all [AV.beq]
 |.qj,y,h=>by cases y<;>simp_all [AV.beq]
 |.sl l o n z v c,y,h=>by cases y<;>simp_all [AV.beq]
 |.zcd,y,h=>by cases y<;>simp_all [AV.beq]
 |.map l,y,h=>by cases y<;>simp_all [AV.beq]
 |.zeX,y,h=>by cases y<;>simp_all [AV.beq]
 |.fn f a c,y,h=>by
  cases y with
  |fn f' a' c'=>
   simp only[AV.beq,Bool.and_eq_true] at h
   rw[Nat.eq_of_beq_eq_true h.1.1,AV.km a a' h.1.2,AV.km c c' h.2]
  |_=>simp [AV.beq] at h
 |.xQ,y,h=>by cases y<;>simp_all [AV.beq]
 |.ifc t v,y,h=>by
  cases y with
  |ifc t' v'=>
   simp only[AV.beq,Bool.and_eq_true] at h
   rw[Nat.eq_of_beq_eq_true h.1,AV.beq_eq v v' h.2]
  |_=>simp [AV.beq] at h
 |.opq,y,h=>by cases y<;>simp_all [AV.beq]
 |.agg l,y,h=>by
  cases y with
  |agg l'=>simp only[AV.beq] at h;rw[AV.km l l' h]
  |_=>simp [AV.beq] at h
 |.tup l,y,h=>by
  cases y with
  |tup l'=>simp only[AV.beq] at h;rw[AV.km l l' h]
  |_=>simp [AV.beq] at h
 |.any,y,h=>by cases y<;>simp_all [AV.beq]
 |.iv a b,y,h=>by cases y<;>simp_all [AV.beq]
 |.yld a,y,h=>by cases y<;>simp_all [AV.beq]
 |.vs l n,y,h=>by
  cases y with
  |vs l' n'=>
   simp only[AV.beq,Bool.and_eq_true] at h
   rw[AV.km l l' h.1,Nat.eq_of_beq_eq_true h.2]
  |_=>simp [AV.beq] at h
theorem AV.km:∀ (x y:List AV),AV.zgg x y=true->x=y
 | [],y,h=>by cases y<;>simp_all [AV.zgg]
 |x::l,y,h=>by
  cases y with
  |nil=>simp [AV.zgg] at h
  |cons x' l'=>
   simp only[AV.zgg,Bool.and_eq_true] at h
   rw[AV.beq_eq x x' h.1,AV.km l l' h.2]
end
def bit(m k:Nat):Bool:=m.testBit k
def zd9(acc:List Nat):List Edge->Nat
 | []=>0
 |e::l=>match Region.binds .any e with
  |true=>(1 <<< e.on) ||| (acc.getD e.on 0) ||| zd9 acc l
  |false=>zd9 acc l
def infos:List Oper->List Nat->List (Option Nat×Nat)
 | [],_=>[]
 |o::l,acc=>(o.dst,zd9 acc o.after.toList)::infos l (acc++[zd9 acc o.after.toList])
inductive Rec where
 |off|hole (loc n:Nat)|quiet (v:AV)|act (v:AV) (h:za)
def Rec.val:Rec->AV
 |.off=>.undef
 |.hole loc n=>.ptr loc 0 0 n
 |.quiet v=>v
 |.act v _=>v
def zaL(h:za):List Rec->za
 | []=>h
 |.act _ h'::l=>zaL h' l
 |_::l=>zaL h l
def kL(b:Nat):Nat->List Rec->Bool
 |_,[]=>true
 |k,.act _ _::l=>bit b k&&kL b (k+1) l
 |k,_::l=>kL b (k+1) l
def wC:List Rec->Nat
 | []=>0
 |.hole _ _::l=>wC l+1
 |_::l=>wC l
def zca(i b t:Nat)(old:Option AV):List (Option Nat×Nat)->Nat->List AV->Option AV
 | [],_,_=>old
 |(some d,m)::I,k,vs=>match Nat.beq d t with
  |true=>match bit b k with
   |true=>vs.head?
   |false=>match bit m i with
    |true=>old
    |false=>none
  |false=>zca i b t old I (k+1) vs.tail
 |(none,_)::I,k,vs=>zca i b t old I (k+1) vs.tail
def evD(P:Program)(I:List (Option Nat×Nat))(env:Arr AV)(vs:List AV)(i b:Nat)(h:za):Operand->Option AV
 |.tmp t=>zca i b t env[t]? I 0 vs
 |.const c=>mev P Arr.nil h (.const c)
 |.global g=>mev P Arr.nil h (.global g)
 |.func f=>mev P Arr.nil h (.func f)
def zck(ops:List Oper)(o:Oper)(b:Nat)(vs:List AV):Option Bool:=
 match o.guard with
 |none=>some true
 |some (g,x)=>match bit b g,ops[g]?,vs[g]? with
  |true,some q,some v=>match q.dst with
   |some _=>some (isB (some v)==some x)
   |none=>some false
  |_,_,_=>none
def zdl(P:Program)(q:FuncId->Bool)(op:Op):K3:=match kindOf P op with
 |.act=>match op with
  |.call c=>match c.callee with
   |.value (.func f)=>match q f with
    |true=>.quiet
    |false=>.act
   |_=>.act
  |_=>.act
 |k=>k
def zdL(P:Program)(call:Cal->List AV->za->Option CR)(e:Operand->Option AV)(h:za)(op:Op):Option (AV×za):=
 match mop P e h op with
 |some (.val v h')=>some (v,h')
 |some (.unit h')=>some (.undef,h')
 |some (.call f args)=>match call f args h with
  |some (.ret v h')=>some (v,h')
  |_=>none
 |some (.dfr ..)=>none
 |none=>none
def jF:Op->Bool
 |.buildSlice _ _ _=>true
 |_=>false
def zc0:List (Nat×Operand)->Bool
 | []=>true
 |(_,.global _)::_=>false
 |_::l=>zc0 l
def zhs(P:Program)(e:Operand->Option AV):Op->Option AV
 |.buildSlice t len parts=>match P.underlying t,zc0 parts.toList with
  |some (.slice el),true=>match wI P el,zeroOf P el,qH e parts.toList with
   |some (n+1),some z,some ps=>if len*(n+1)<=2 ^ 24/\z.cells.length=n+1 then
     match zbr (fun i=>some (i*(n+1),n+1)) (zY z.cells (len*(n+1))) ps with
     |some cs=>some (.vs cs (n+1))
     |none=>none
    else none
   |_,_,_=>none
  |_,_=>none
 |_=>none
def zqG(t b:Nat):List Oper->List (Option Nat×Nat)->Nat->Bool
 |o::l,(d,_)::I,k=>(match d with
  |some d'=>Nat.beq d' t&&bit b k&&jF o.op
  |none=>false)||zqG t b l I (k+1)
 |_,_,_=>false
def zmS(P:Program)(ops:List Oper)(I:List (Option Nat×Nat))(b:Nat)(e:Operand->Option AV)(h:za):Op->Option (AV×za)
 |.call c=>match c.callee,c.argTypes.toList,c.args.toList with
  |.builtin .append,[t,t2],[s,.tmp x]=>match e s,e (.tmp x),zqG x b ops I 0 with
   |some sv,some (.vs xs sz),true=>match P.underlying t,P.underlying t2 with
    |some (.slice el),some (.slice _)=>match P.info? el with
     |some i=>match i.zero with
      |some z=>if z.cells.size=i.size/\i.bytes<=256/\sz=i.size then app h el sv i.size xs (xs.length/i.size) else none
      |none=>none
     |none=>none
    |_,_=>none
   |_,_,_=>none
  |_,_,_=>none
 |_=>none
def j1(P:Program)(q:FuncId->Bool)(call:Cal->List AV->za->Option CR)(ops:List Oper)(I:List (Option Nat×Nat))(env:Arr AV)(base:Nat)(h0:za)(done:List Rec)(o:Oper):Option Rec:=
 match I[done.length]? with
 |none=>none
 |some (_,b)=>match zck ops o b (done.map Rec.val) with
  |none=>none
  |some false=>some .off
  |some true=>match zdl P q o.op with
   |.hole t=>match zeroOf P t with
    |some z=>some (.hole (base+wC done) z.cells.length)
    |none=>none
   |.quiet=>match zdL P call (evD P I env (done.map Rec.val) done.length b (zaL h0 done)) (zaL h0 done) o.op with
    |some (v,_)=>some (.quiet v)
    |none=>none
   |.act=>match kL b 0 done with
    |true=>match zdL P call (evD P I env (done.map Rec.val) done.length b (zaL h0 done)) (zaL h0 done) o.op with
     |some (v,h')=>some (.act v h')
     |none=>match zmS P ops I b (evD P I env (done.map Rec.val) done.length b (zaL h0 done)) (zaL h0 done) o.op with
      |some (v,h')=>some (.act v h')
      |none=>none
    |false=>match zhs P (evD P I env (done.map Rec.val) done.length b (zaL h0 done)) o.op with
     |some v=>some (.quiet v)
     |none=>none
def steps(P:Program)(q:FuncId->Bool)(call:Cal->List AV->za->Option CR)(ops:List Oper)(I:List (Option Nat×Nat))(env:Arr AV)(base:Nat)(h0:za):List Oper->List Rec->Option (List Rec)
 | [],done=>some done
 |o::l,done=>match j1 P q call ops I env base h0 done o with
  |some r=>steps P q call ops I env base h0 l (done++[r])
  |none=>none
def goQ(cond:za->Bool)(i b:Nat):List Rec->List (Option Nat×Nat)->Nat->za->Bool
 |.act _ h'::l,(_,m)::I,k,cur=>match bit b k with
  |true=>goQ cond i b l I (k+1) h'
  |false=>match bit m i with
   |true=>cond cur
   |false=>cond cur&&goQ cond i b l I (k+1) h'
 |_::l,_::I,k,cur=>goQ cond i b l I (k+1) cur
 |_,_,_,cur=>cond cur
def settled(i b:Nat):List Rec->List (Option Nat×Nat)->Nat->Bool
 | [],_,_=>true
 |_::_,[],_=>false
 |r::l,(_,m)::I,k=>(match r with
  |.act _ _=>(match Nat.blt k i with
   |true=>bit b k
   |false=>bit m i)
  |_=>true)&&settled i b l I (k+1)
def zid(P:Program)(q:FuncId->Bool)(call:Cal->List AV->za->Option CR)(I:List (Option Nat×Nat))(env:Arr AV)(vs:List AV)(i b:Nat)(o:Oper)(v:AV)(h:za):Bool:=
 match zdL P call (evD P I env vs i b h) h o.op with
 |some (v',_)=>v'.beq v
 |none=>false
def zjw(P:Program)(t loc:Nat)(h:za):Bool:=
 match zeroOf P t,h[loc]? with
 |some z,some (.row cells 0 0 0 false (some t'))=>Nat.beq t' t&&AV.zgg cells z.cells
 |_,_=>false
def zqu:AV->Op->Bool
 |.vs _ _,op=>jF op
 |_,_=>false
def zlO(P:Program)(q:FuncId->Bool)(call:Cal->List AV->za->Option CR)(I:List (Option Nat×Nat))(env:Arr AV)(vs:List AV)(h0:za)(recs:List Rec)(i b:Nat)(o:Oper):Rec->Bool
 |.quiet v=>settled i b recs I 0||goQ (zid P q call I env vs i b o v) i b recs I 0 h0||zqu v o.op
 |.hole loc _=>match o.op with
  |.alloc t=>Nat.blt loc h0.length&&goQ (zjw P t loc) i b recs I 0 h0
  |_=>false
 |_=>true
def zjt(P:Program)(q:FuncId->Bool)(call:Cal->List AV->za->Option CR)(I:List (Option Nat×Nat))(env:Arr AV)(vs:List AV)(h0:za)(recs:List Rec):List Oper->List (Option Nat×Nat)->List Rec->Nat->Bool
 |o::l,(_,b)::I',r::rs,i=>zlO P q call I env vs h0 recs i b o r&&zjt P q call I env vs h0 recs l I' rs (i+1)
 | [],_,_,_=>true
 |_,_,_,_=>false
def zfH(d:Nat):List (Option Nat×Nat)->Bool
 | []=>true
 |(some d',_)::I=>!Nat.beq d' d&&zfH d I
 |(none,_)::I=>zfH d I
def zah:List (Option Nat×Nat)->Bool
 | []=>true
 |(some d,_)::I=>zfH d I&&zah I
 |(none,_)::I=>zah I
def qM(P:Program):List Oper->Option (List Blk)
 | []=>some []
 |o::l=>match o.op,qM P l with
  |.alloc t,some bs=>match zeroOf P t with
   |some z=>some (.row z.cells 0 0 0 false (some t)::bs)
   |none=>none
  |_,r=>r
def znQ:List (Option Nat×Nat)->List Rec->Arr AV->Option (Arr AV)
 |(d,_)::I,r::rs,env=>match zdT env d r.val with
  |some env'=>znQ I rs env'
  |none=>none
 |_,_,env=>some env
def zes(P:Program)(q:FuncId->Bool)(call:Cal->List AV->za->Option CR)(ops:List Oper)(I:List (Option Nat×Nat))(env:Arr AV)(base:Nat)(h0:za)(mk:List Dfd):Option OR:=
 match steps P q call ops I env base h0 ops [] with
 |none=>none
 |some recs=>match zjt P q call I env (recs.map Rec.val) h0 recs ops I recs 0 with
  |true=>zge (zaL h0 recs) mk (znQ I recs env)
  |false=>none
def xU(P:Program)(q:FuncId->Bool)(call:Cal->List AV->za->Option CR)(ops:List Oper)(env:Arr AV)(h:za)(mk:List Dfd):Option OR:=
 match zcE ops&&zah (infos ops []),qM P ops with
 |true,some hs=>zes P q call ops (infos ops []) env h.length (h++hs) mk
 |_,_=>none
theorem zdH{P:Program}{q:FuncId->Bool}{op:Op}{t:TypeId}(hk:zdl P q op=.hole t):kindOf P op=.hole t:=by
 unfold zdl at hk
 split at hk
 ·split at hk
  ·split at hk
   ·split at hk<;>cases hk
   ·cases hk
  ·cases hk
 ·exact hk
theorem zgF{P:Program}{q:FuncId->Bool}{op:Op}(hk:zdl P q op=.quiet):kindOf P op=.quiet\/∃ c f,op=.call c/\c.callee=.value (.func f)/\q f=true:=by
 unfold zdl at hk
 generalize hK:kindOf P op=K at hk |-
 cases K with
 |act=>
  cases op<;>first|(cases hk;done)|skip
  case call c=>
   dsimp only at hk
   split at hk
   ·rename_i f hc
    cases hq:q f with
    |true=>exact .inr ⟨c,f,rfl,hc,hq⟩
    |false=>rw[hq] at hk;cases hk
   ·cases hk
 |quiet=>exact .inl rfl
 |hole t=>cases hk
theorem zhM{P:Program}{q:FuncId->Bool}{op:Op}(hk:kindOf P op=.quiet):zdl P q op=.quiet:=by unfold zdl;rw[hk]
theorem zj7{P:Program}{call:Cal->List AV->za->Option CR}{e:Operand->Option AV}{h h':za}{op:Op}{v:AV}(hk:kindOf P op=.quiet)(hm:zdL P call e h op=some (v,h')):
  h'=h/\∀ (e':Operand->Option AV) (h2:za),Ext h h2->(∀ y v,e y=some v->e' y=some v)->zdL P call e' h2 op=some (v,h2):=by
 unfold zdL at hm |-
 cases hmo:mop P e h op with
 |none=>rw[hmo] at hm;cases hm
 |some r=>
  rw[hmo] at hm
  obtain⟨v',rfl,_⟩:=zet (h2:=h) (fun _ _ h=>h) (fun _ _ h=>h) hk hmo
  cases hm
  refine⟨rfl,fun e' h2 hx he=>?_⟩
  obtain⟨v2,e1,e2⟩:=zet hx he hk hmo
  cases e1
  rw[e2]
theorem znc{P:Program}{q:FuncId->Bool}{call:Cal->List AV->za->Option CR}(hqc:QC call q){e:Operand->Option AV}{h h':za}{op:Op}{v:AV}(hk:zdl P q op=.quiet)(hef:∀ f,e (.func f)=some (.fn f [] []))(hm:zdL P call e h op=some (v,h')):
  h'=h/\∀ (e':Operand->Option AV) (h2:za),Ext h h2->(∀ y v,e y=some v->e' y=some v)->zdL P call e' h2 op=some (v,h2):=by
 rcases zgF hk with hk|⟨c,f,rfl,hcal,hq⟩
 ·obtain⟨h1,h2⟩:=zj7 hk hm
  exact⟨h1,h2⟩
 ·have key:∀ (e:Operand->Option AV) (g:za),e (.func f)=some (.fn f [] [])->∀ args,zdp e c.args.toList=some args->zdL P call e g (.call c)=(match call (.f f) ([]++args++[]) g with|some (.ret v h')=>some (v,h')|_=>none):=fun e g he args ha=>by
   unfold zdL mop
   dsimp only
   rw[hcal,ha]
   dsimp only
   rw[he]
  cases ha:zdp e c.args.toList with
  |none=>unfold zdL mop at hm;dsimp only at hm;rw[hcal,ha] at hm;cases hm
  |some args=>
   rw[key e h (hef f) args ha] at hm
   split at hm
   ·rename_i v2 h3 hcl
    cases hm
    obtain⟨v',e1,e2⟩:=hqc f hq _ _ _ hcl
    cases e1
    refine⟨rfl,fun e' h2 hx he=>?_⟩
    rw[key e' h2 (he _ _ (hef f)) args (xC he ha),e2 h2 hx]
   ·cases hm
def zmU(l:List Oper)(S:Nat->Bool):Prop:=∀ (k:Nat) (o:Oper),S k=true->l[k]?=some o->∀ e ∈ o.after,Region.binds .any e=true->S e.on=true
def zhu(l:List Oper)(k m:Nat):Prop:=∀ o,l[k]?=some o->∀ S,zmU l S->(∀ e ∈ o.after,Region.binds .any e=true->S e.on=true)->∀ j,bit m j=true->S j=true
theorem zbi{acc:List Nat}{j:Nat}:∀ {es:List Edge},bit (zd9 acc es) j=true->∃ e ∈ es,Region.binds .any e=true/\(j=e.on\/bit (acc.getD e.on 0) j=true)
 | [],h=>by simp [zd9,bit] at h
 |e::l,h=>by
  unfold zd9 at h
  cases hb:Region.binds .any e with
  |true=>
   rw[hb] at h
   simp only[bit,Nat.testBit_or,Bool.or_eq_true] at h
   rcases h with(h|h)|h
   ·rw[Nat.one_shiftLeft,Nat.testBit_two_pow] at h
    exact⟨e,List.mem_cons_self,hb,.inl (by simpa using(of_decide_eq_true h).symm)⟩
   ·exact⟨e,List.mem_cons_self,hb,.inr h⟩
   ·obtain⟨e',h1,h2⟩:=zbi (es:=l) h
    exact⟨e',List.mem_cons_of_mem _ h1,h2⟩
  |false=>
   rw[hb] at h
   obtain⟨e',h1,h2⟩:=zbi (es:=l) h
   exact⟨e',List.mem_cons_of_mem _ h1,h2⟩
theorem qv:∀ (l:List Oper) (acc:List Nat),(infos l acc).length=l.length
 | [],_=>rfl
 |o::l,acc=>by simp [infos,qv l]
theorem jA:∀ {l:List Oper} {acc:List Nat} {k:Nat} {d:Option Nat} {m:Nat},(infos l acc)[k]?=some (d,m)->∃ o,l[k]?=some o/\o.dst=d
 | [],acc,k,d,m,h=>by simp [infos] at h
 |o::l,acc,0,d,m,h=>by
  simp only[infos,List.getElem?_cons_zero,Option.some.injEq,Prod.mk.injEq] at h
  exact⟨o,rfl,h.1⟩
 |o::l,acc,k+1,d,m,h=>by
  simp only[infos,List.getElem?_cons_succ] at h
  obtain⟨o',h1,h2⟩:=jA h
  exact⟨o',by simpa using h1,h2⟩
theorem zbP{l0:List Oper}:∀ {l:List Oper} {acc:List Nat},l0.drop acc.length=l->(∀ k m,acc[k]?=some m->zhu l0 k m)->∀ k d m,(infos l acc)[k]?=some (d,m)->zhu l0 (acc.length+k) m
 | [],acc,hd,ha,k,d,m,h=>by simp [infos] at h
 |o::l,acc,hd,ha,k,d,m,h=>by
  have hlt:acc.length<l0.length:=by
   rcases Nat.lt_or_ge acc.length l0.length with h1|h1
   ·exact h1
   ·rw[List.drop_eq_nil_of_le h1] at hd;cases hd
  have hcons:=List.drop_eq_getElem_cons hlt
  rw[hd] at hcons
  obtain⟨ho,hl⟩:=List.cons.inj hcons
  have hoo:l0[acc.length]?=some o:=by rw[List.getElem?_eq_getElem hlt,<- ho]
  have hB:zhu l0 acc.length (zd9 acc o.after.toList):=by
   intro o' ho' S hS he j hj
   rw[hoo] at ho';cases ho'
   obtain⟨e,h1,h2,h3⟩:=zbi hj
   have hSe:=he e (by simpa using h1) h2
   rcases h3 with rfl|h3
   ·exact hSe
   ·rw[List.getD_eq_getElem?_getD] at h3
    cases hq:acc[e.on]? with
    |none=>rw[hq] at h3;simp [bit] at h3
    |some mm=>
     rw[hq] at h3
     have hlt2:=(List.getElem?_eq_some_iff.1 hq).1
     have ho2:l0[e.on]?=some l0[e.on]:=List.getElem?_eq_getElem (by omega)
     exact ha _ _ hq _ ho2 S hS (fun e' he' hb'=>hS _ _ hSe ho2 e' he' hb') j h3
  cases k with
  |zero=>
   simp only[infos,List.getElem?_cons_zero,Option.some.injEq,Prod.mk.injEq] at h
   rw[<- h.2];exact hB
  |succ k=>
   simp only[infos,List.getElem?_cons_succ] at h
   have:=zbP (l0:=l0) (acc:=acc++[zd9 acc o.after.toList]) (by rw[List.length_append];exact hl.symm) (fun k' m' hk'=>by
    rcases Nat.lt_or_ge k' acc.length with h1|h1
    ·rw[List.getElem?_append_left h1] at hk';exact ha _ _ hk'
    ·rw[List.getElem?_append_right h1] at hk'
     have h0:k'-acc.length=0:=by
      rcases Nat.eq_zero_or_pos (k'-acc.length) with h2|h2
      ·exact h2
      ·rw[List.getElem?_eq_none (by simp;omega)] at hk';cases hk'
     rw[h0] at hk'
     simp at hk'
     rw[<- hk',show k'=acc.length by omega];exact hB) k d m h
   rw[List.length_append] at this
   simpa [Nat.add_assoc,Nat.add_comm 1 k] using this
theorem kE{d:Nat}:∀ {I:List (Option Nat×Nat)},zfH d I=true->∀ (k m:Nat),I[k]? ≠ some (some d,m)
 | [],h,k,m=>by simp
 |(some d',m')::I,h,k,m=>by
  simp only[zfH,Bool.and_eq_true,Bool.not_eq_true'] at h
  cases k with
  |zero=>intro e;simp at e;have:=h.1;simp [e.1] at this
  |succ k=>simpa using kE h.2 k m
 |(none,m')::I,h,k,m=>by
  cases k with
  |zero=>simp
  |succ k=>simpa using kE (I:=I) h k m
theorem qf:∀ {I:List (Option Nat×Nat)},zah I=true->∀ (k k' d m m':Nat),I[k]?=some (some d,m)->I[k']?=some (some d,m')->k=k'
 | [],h,k,k',d,m,m',h1,h2=>by simp at h1
 |(some d0,m0)::I,h,k,k',d,m,m',h1,h2=>by
  simp only[zah,Bool.and_eq_true] at h
  cases k with
  |zero=>
   cases k' with
   |zero=>rfl
   |succ k'=>simp at h1 h2;rw[h1.1] at h;exact absurd h2 (kE h.1 _ _)
  |succ k=>
   cases k' with
   |zero=>simp at h1 h2;rw[h2.1] at h;exact absurd h1 (kE h.1 _ _)
   |succ k'=>simp at h1 h2;rw[qf h.2 _ _ _ _ _ h1 h2]
 |(none,m0)::I,h,k,k',d,m,m',h1,h2=>by
  cases k with
  |zero=>simp at h1
  |succ k=>
   cases k' with
   |zero=>simp at h2
   |succ k'=>simp at h1 h2;rw[qf (I:=I) h _ _ _ _ _ h1 h2]
theorem xA{i b t:Nat}{old:Option AV}{v:AV}:∀ {I:List (Option Nat×Nat)} {k:Nat} {vs:List AV},zca i b t old I k vs=some v ->
  (∃ j m:Nat,I[j]?=some (some t,m)/\bit b (k+j)=true/\vs[j]?=some v)\/(∃ j m:Nat,I[j]?=some (some t,m)/\bit m i=true/\old=some v)\/((∀ j m:Nat,I[j]? ≠ some (some t,m))/\old=some v)
 | [],k,vs,h=>.inr (.inr ⟨by simp,h⟩)
 |(some d,m)::I,k,vs,h=>by
  unfold zca at h
  cases hd:Nat.beq d t with
  |true=>
   rw[hd] at h
   have:=Nat.eq_of_beq_eq_true hd
   subst this
   cases hb:bit b k with
   |true=>
    rw[hb] at h
    refine .inl ⟨0,m,rfl,hb,?_⟩
    cases vs<;>simp_all
   |false=>
    rw[hb] at h
    cases hm:bit m i with
    |true=>rw[hm] at h;exact .inr (.inl ⟨0,m,rfl,hm,h⟩)
    |false=>rw[hm] at h;cases h
  |false=>
   rw[hd] at h
   have hne:d≠t:=fun e=>by subst e;simp at hd
   rcases xA (I:=I) h with⟨j,m',h1,h2,h3⟩|⟨j,m',h1,h2⟩|⟨h1,h2⟩
   ·exact .inl ⟨j+1,m',by simpa using h1,by rw[<- h2];congr 1;omega,by cases vs<;>simp_all⟩
   ·exact .inr (.inl ⟨j+1,m',by simpa using h1,h2⟩)
   ·refine .inr (.inr ⟨fun j m'=>?_,h2⟩)
    cases j with
    |zero=>simp;intro e;exact absurd e hne
    |succ j=>simpa using h1 j m'
 |(none,m)::I,k,vs,h=>by
  unfold zca at h
  rcases xA (I:=I) h with⟨j,m',h1,h2,h3⟩|⟨j,m',h1,h2⟩|⟨h1,h2⟩
  ·exact .inl ⟨j+1,m',by simpa using h1,by rw[<- h2];congr 1;omega,by cases vs<;>simp_all⟩
  ·exact .inr (.inl ⟨j+1,m',by simpa using h1,h2⟩)
  ·refine .inr (.inr ⟨fun j m'=>?_,h2⟩)
   cases j with
   |zero=>simp
   |succ j=>simpa using h1 j m'
theorem zdX{P:Program}{q:FuncId->Bool}{call:Cal->List AV->za->Option CR}{ops:List Oper}{I:List (Option Nat×Nat)}{env:Arr AV}{base:Nat}{h0:za}{recs:List Rec}:∀ {l:List Oper} {done:List Rec},steps P q call ops I env base h0 l done=some recs ->
  recs.length=done.length+l.length/\recs.take done.length=done/\∀ i o,l[i]?=some o->∃ r,recs[done.length+i]?=some r/\j1 P q call ops I env base h0 (recs.take (done.length+i)) o=some r
 | [],done,h=>by cases h;simp
 |o::l,done,h=>by
  unfold steps at h
  cases hs:j1 P q call ops I env base h0 done o with
  |none=>rw[hs] at h;cases h
  |some r=>
   rw[hs] at h
   obtain⟨h1,h2,h3⟩:=zdX h
   simp only[List.length_append,List.length_cons,List.length_nil] at h1 h2 h3
   have ht:recs.take done.length=done:=by
    have:=congrArg (List.take done.length) h2
    rw[List.take_take,List.take_append_of_le_length (Nat.le_refl _),List.take_length] at this
    rwa [Nat.min_eq_left (by omega)] at this
   refine⟨by simp only[List.length_cons];omega,ht,fun i o' hi=>?_⟩
   cases i with
   |zero=>
    simp at hi;subst hi
    refine⟨r,?_,by rw[Nat.add_zero,ht];exact hs⟩
    have:(recs.take (done.length+1))[done.length]?=some r:=by rw[h2];simp
    rw[List.getElem?_take_of_lt (by omega)] at this
    exact this
   |succ i=>
    simp only[List.getElem?_cons_succ] at hi
    have:=h3 i o' hi
    rwa [show done.length+1+i=done.length+(i+1) by omega] at this
def hAt(S:Nat->Bool)(h:za):Nat->List Rec->za
 |_,[]=>h
 |k,.act _ h'::l=>hAt S (if S k then h' else h) (k+1) l
 |k,_::l=>hAt S h (k+1) l
def wU:Rec->Bool
 |.act _ _=>true
 |_=>false
theorem wv{S:Nat->Bool}{h:za}{k:Nat}{r:Rec}{l:List Rec}(hr:wU r=false):hAt S h k (r::l)=hAt S h (k+1) l:=by cases r<;>first|rfl|cases hr
theorem zdE{h:za}{r:Rec}{l:List Rec}(hr:wU r=false):zaL h (r::l)=zaL h l:=by cases r<;>first|rfl|cases hr
theorem xz{S:Nat->Bool}:∀ {l:List Rec} {h:za} {k:Nat},(∀ j r,l[j]?=some r->wU r=true->S (k+j)=false)->hAt S h k l=h
 | [],h,k,_=>rfl
 |r::l,h,k,hn=>by
  have ih:∀ h,hAt S h (k+1) l=h:=fun h=>xz fun j r hj ha=>by have:=hn (j+1) r (by simpa using hj) ha;rwa [show k+1+j=k+(j+1) by omega]
  cases hr:wU r with
  |false=>rw[wv hr];exact ih h
  |true=>
   cases r with
   |act v h'=>
    have:=hn 0 _ rfl rfl
    rw[Nat.add_zero] at this
    simp only[hAt,this]
    exact ih h
   |_=>cases hr
theorem zeg{S:Nat->Bool}:∀ {l:List Rec} {h:za} {k:Nat},(∀ j r,l[j]?=some r->wU r=true->S (k+j)=true)->hAt S h k l=zaL h l
 | [],h,k,_=>rfl
 |r::l,h,k,hn=>by
  have ih:∀ h,hAt S h (k+1) l=zaL h l:=fun h=>zeg fun j r hj ha=>by have:=hn (j+1) r (by simpa using hj) ha;rwa [show k+1+j=k+(j+1) by omega]
  cases hr:wU r with
  |false=>rw[wv hr,zdE hr];exact ih h
  |true=>
   cases r with
   |act v h'=>
    have:=hn 0 _ rfl rfl
    rw[Nat.add_zero] at this
    simp only[hAt,this,zaL]
    exact ih h'
   |_=>cases hr
theorem w4{S:Nat->Bool}:∀ {l1 l2:List Rec} {h:za} {k:Nat},hAt S h k (l1++l2)=hAt S (hAt S h k l1) (k+l1.length) l2
 | [],l2,h,k=>rfl
 |r::l1,l2,h,k=>by
  have e:k+1+l1.length=k+(l1.length+1):=by omega
  cases hr:wU r with
  |false=>rw[List.cons_append,wv hr,wv hr,w4,List.length_cons,e]
  |true=>
   cases r with
   |act v h'=>simp only[List.cons_append,hAt,List.length_cons];rw[w4,e]
   |_=>cases hr
theorem zff{S S':Nat->Bool}:∀ {l:List Rec} {h:za} {k:Nat},(∀ j r,l[j]?=some r->wU r=true->S (k+j)=S' (k+j))->hAt S h k l=hAt S' h k l
 | [],h,k,_=>rfl
 |r::l,h,k,hn=>by
  have ih:∀ h,hAt S h (k+1) l=hAt S' h (k+1) l:=fun h=>zff fun j r hj ha=>by have:=hn (j+1) r (by simpa using hj) ha;rwa [show k+1+j=k+(j+1) by omega]
  cases hr:wU r with
  |false=>rw[wv hr,wv hr];exact ih h
  |true=>
   cases r with
   |act v h'=>
    have:=hn 0 _ rfl rfl
    rw[Nat.add_zero] at this
    simp only[hAt,this]
    exact ih _
   |_=>cases hr
theorem kj{b:Nat}:∀ {l:List Rec} {k:Nat},kL b k l=true->∀ j r,l[j]?=some r->wU r=true->bit b (k+j)=true
 | [],k,h,j,r,hj,ha=>by simp at hj
 |r0::l,k,h,j,r,hj,ha=>by
  have hrest:kL b (k+1) l=true:=by
   cases r0<;>first|exact h|(simp only[kL,Bool.and_eq_true] at h;exact h.2)
  cases j with
  |zero=>
   simp at hj;subst hj
   cases r0<;>first|(simp only[kL,Bool.and_eq_true] at h;rw[Nat.add_zero];exact h.1)|cases ha
  |succ j=>
   have:=kj hrest j r (by simpa using hj) ha
   rwa [show k+1+j=k+(j+1) by omega] at this
theorem zfc{cond:za->Bool}{i b:Nat}{S:Nat->Bool}(hB:∀ j,bit b j=true->S j=true):∀ {l:List Rec} {I:List (Option Nat×Nat)} {k:Nat} {cur:za},I.length=l.length ->
  (∀ (j:Nat) (d:Option Nat) (m:Nat),I[j]?=some (d,m)->bit m i=true->S (k+j)=false) ->
  (∀ j j' r r',j<j'->l[j]?=some r->wU r=true->l[j']?=some r'->wU r'=true->S (k+j')=true->S (k+j)=true) ->
  goQ cond i b l I k cur=true->cond (hAt S cur k l)=true
 | [],I,k,cur,hl,hI,hP,h=>by
  cases I<;>exact h
 |r::l,[],k,cur,hl,hI,hP,h=>by simp at hl
 |r::l,(d,m)::I,k,cur,hl,hI,hP,h=>by
  have ih:∀ {cur},goQ cond i b l I (k+1) cur=true->cond (hAt S cur (k+1) l)=true:=fun {cur}=>zfc hB (by simpa using hl)
   (fun j d m hj hb=>by have:=hI (j+1) d m (by simpa using hj) hb;rwa [show k+1+j=k+(j+1) by omega])
   (fun j j' r r' hlt hj ha hj' ha' hS=>by
    have:=hP (j+1) (j'+1) r r' (by omega) (by simpa using hj) ha (by simpa using hj') ha' (by rwa [show k+(j'+1)=k+1+j' by omega])
    rwa [show k+1+j=k+(j+1) by omega])
  cases hr:wU r with
  |false=>
   rw[wv hr]
   refine ih ?_
   cases r<;>first|exact h|cases hr
  |true=>
   cases r with
   |act v h'=>
    have hstop:S k=false->hAt S cur k (.act v h'::l)=cur:=fun hk=>by
     refine xz fun j r' hj ha=>?_
     cases j with
     |zero=>rw[Nat.add_zero];exact hk
     |succ j=>
      cases hS:S (k+(j+1)) with
      |false=>rfl
      |true=>
       have:=hP 0 (j+1) _ r' (by omega) rfl rfl hj ha hS
       rw[Nat.add_zero,hk] at this;cases this
    have hgo:S k=true->hAt S cur k (.act v h'::l)=hAt S h' (k+1) l:=fun hk=>by simp [hAt,hk]
    unfold goQ at h
    cases hb:bit b k with
    |true=>
     rw[hb] at h
     rw[hgo (hB k hb)]
     exact ih h
    |false=>
     rw[hb] at h
     cases hm:bit m i with
     |true=>
      rw[hm] at h
      rw[hstop (by have:=hI 0 d m rfl hm;rwa [Nat.add_zero] at this)]
      exact h
     |false=>
      rw[hm] at h
      simp only[Bool.and_eq_true] at h
      cases hk:S k with
      |true=>rw[hgo hk];exact ih h.2
      |false=>rw[hstop hk];exact h.1
   |_=>cases hr
theorem ze6{P:Program}{q:FuncId->Bool}{call:Cal->List AV->za->Option CR}{I:List (Option Nat×Nat)}{env:Arr AV}{vs:List AV}{h0:za}{recs:List Rec}:∀ {l:List Oper} {I':List (Option Nat×Nat)} {rs:List Rec} {i:Nat},zjt P q call I env vs h0 recs l I' rs i=true ->
  ∀ (j:Nat) (o:Oper) (d:Option Nat) (b:Nat) (r:Rec),l[j]?=some o->I'[j]?=some (d,b)->rs[j]?=some r->zlO P q call I env vs h0 recs (i+j) b o r=true
 | [],_,_,_,_,j,o,d,b,r,h1,_,_=>by simp at h1
 |o::l,[],_,_,h,j,o',d,b,r,h1,h2,_=>by simp at h2
 |o::l,(_,_)::_,[],_,h,j,o',d,b,r,h1,h2,h3=>by simp at h3
 |o::l,(d0,b0)::I',r0::rs,i,h,j,o',d,b,r,h1,h2,h3=>by
  simp only[zjt,Bool.and_eq_true] at h
  cases j with
  |zero=>simp at h1 h2 h3;subst h1;subst h3;rw[<- h2.2];exact h.1
  |succ j=>
   have:=ze6 h.2 j o' d b r (by simpa using h1) (by simpa using h2) (by simpa using h3)
   rwa [show i+1+j=i+(j+1) by omega] at this
theorem zcK:∀ {I:List (Option Nat×Nat)} {recs:List Rec} {env env':Arr AV},I.length=recs.length->znQ I recs env=some env' ->
  env'.length=env.length/\(∀ (k d m:Nat),I[k]?=some (some d,m)->d<env.length) /\
  ∀ (t:Nat) (x:AV),env'[t]?=some x->(∃ (k m:Nat) (r:Rec),I[k]?=some (some t,m)/\recs[k]?=some r/\x=r.val)\/((∀ (k m:Nat),I[k]? ≠ some (some t,m))/\env[t]?=some x)
 | [],recs,env,env',hl,h=>by
  have:env'=env:=by cases recs<;>simp [znQ] at h<;>exact h.symm
  subst this
  exact⟨rfl,by simp,fun t x hx=>.inr ⟨by simp,hx⟩⟩
 |(d,m)::I,[],env,env',hl,h=>by simp at hl
 |(d,m)::I,r::rs,env,env',hl,h=>by
  unfold znQ at h
  cases hs:zdT env d r.val with
  |none=>rw[hs] at h;cases h
  |some env1=>
   rw[hs] at h
   obtain⟨h1,h2,h3⟩:=zcK (by simpa using hl) h
   have hset:env1.length=env.length/\(∀ d',d=some d'->d'<env.length)/\∀ t x,env1[t]?=some x->(d=some t/\x=r.val)\/(d≠some t/\env[t]?=some x):=by
    cases d with
    |none=>cases hs;exact⟨rfl,fun _ e=>(by cases e),fun t x hx=>.inr ⟨(fun e=>by cases e),hx⟩⟩
    |some d=>
     simp only[zdT] at hs
     split at hs
     ·rename_i hlt
      cases hs
      refine⟨Arr.length_set,fun d' e=>by cases e;exact hlt,fun t x hx=>?_⟩
      rw[Arr.zw] at hx
      split at hx
      ·rename_i e;subst e;cases hx;exact .inl ⟨rfl,rfl⟩
      ·rename_i e;exact .inr ⟨fun q=>e (Option.some.inj q),hx⟩
     ·cases hs
   refine⟨h1.trans hset.1,fun k d' m' hk=>?_,fun t x hx=>?_⟩
   ·cases k with
    |zero=>simp at hk;exact hset.2.1 d' hk.1
    |succ k=>rw[<- hset.1];exact h2 k d' m' (by simpa using hk)
   ·rcases h3 t x hx with⟨k,m',r',e1,e2,e3⟩|⟨e1,e2⟩
    ·exact .inl ⟨k+1,m',r',by simpa using e1,by simpa using e2,e3⟩
    ·rcases hset.2.2 t x e2 with⟨f1,f2⟩|⟨f1,f2⟩
     ·exact .inl ⟨0,m,r,by simp [f1],rfl,f2⟩
     ·refine .inr ⟨fun k m'=>?_,f2⟩
      cases k with
      |zero=>simp;intro e;exact absurd e f1
      |succ k=>simpa using e1 k m'
section
variable {P:Program} {B:Nat} {W0:World} {Q:Exit->Act->World->Prop} {bb:Option Nat}
theorem zbq{call:Cal->List AV->za->Option CR}(hcall:zbH P B W0 call){G:Gh}{e:Operand->Option AV}{h h':za}{v:AV}{a:Act}{w:World}{o:Oper}(hev:∀ x v,e x=some v->V G v (a.eval x))(hr:HR G B h w)(hg:zbg P B W0 G w)
  (hx:zdL P call e h o.op=some (v,h')) {K:Act->World->Prop} (hok:∀ u w' G',Step G G' B h' w w'->V G' v u->K (a.put o.dst u) w'):o.wpIn (fen bb) 0 P a w K Q:=by
 obtain⟨dst,op,ty,pos,after,guard⟩:=o
 unfold Oper.wpIn
 refine⟨fun f _=>zaI bb f,?_⟩
 unfold zdL at hx
 rw[Oper.semAt_eq _ _ _ (fun c hc=>by
  simp only at hc
  subst hc
  have:∀ q,mop P e h (.defer c)=some q->∃ f as1 cap,q=.dfr f as1 cap:=by
   intro q hq
   simp only[mop] at hq
   split at hq
   ·split at hq
    ·cases hq;exact⟨_,_,_,rfl⟩
    ·cases hq
   ·cases hq
  split at hx
  ·rename_i hq;obtain⟨_,_,_,e⟩:=this _ hq;cases e
  ·rename_i hq;obtain⟨_,_,_,e⟩:=this _ hq;cases e
  ·rename_i hq;obtain⟨_,_,_,e⟩:=this _ hq;cases e
  ·cases hx
  ·cases hx)]
 split at hx
 ·rename_i v0 h0 hq
  cases hx
  obtain⟨w',u,G',hrun,hS,hV⟩:=zaV hr hev hq
  rw[hrun,Oper.uponIn_value]
  exact hok _ _ _ hS hV
 ·rename_i h0 hq
  cases hx
  obtain⟨w',G',hrun,hS⟩:=zaV hr hev hq
  rw[hrun,Oper.uponIn_skip]
  exact hok _ _ _ hS (.tup .nil)
 ·rename_i f args hq
  split at hx
  ·rename_i v0 h0 hc
   cases hx
   have hms:=zaV hr hev hq
   cases f with
   |f f=>
    obtain⟨us,hV,hrun⟩:=hms
    rcases hcall (.f f) args h _ hc G us w hV hr hg with⟨hC,hE⟩|⟨v1,h1,u,w',G',hq1,hv,hS,hV'⟩
    ·rw[hrun,hE,Oper.uponIn_enter]
     refine⟨(fun e=>by rw[zaH] at e;cases e),zaj (hC.mono fun e w' hcr=>?_)⟩
     obtain⟨G',hS,u,hv,rfl⟩:=hcr
     exact hok _ _ _ hS hv
    ·cases hq1
     rw[hrun,hv,Oper.uponIn_value]
     exact hok _ _ _ hS hV'
   |y loc=>
    obtain⟨us,rv,hV,hat,hrun⟩:=hms
    obtain⟨L,h1,h2,h3⟩:=hcall (.y loc) args h _ hc G us w rv hV hr hg hat
    rw[hrun,run_yield h1 (by simpa using h2),Oper.uponIn_round]
    refine⟨(fun e=>by rw[zaH] at e;cases e),zcI (h3.mono fun e w' hcr=>?_)⟩
    obtain⟨G',hS,u,hv,rfl⟩:=hcr
    exact hok _ _ _ hS hv
  ·cases hx
 ·cases hx
 ·cases hx
theorem zjA{l:List Oper}(hb:zcE l=true)(Inv:(Nat->Bool)->Act->World->Prop)
  (hstep:∀ (K:Act->World->Prop) (S:Nat->Bool) (a:Act) (w:World) (i:Nat) (o:Oper),S i=false->l[i]?=some o->(∀ e ∈ o.after,Region.binds .any e=true->S e.on=true)->Inv S a w ->
   (∀ a' w',Inv (jH S i) a' w'->K a' w')->wpOpIn (fen bb) 0 P l.toArray Q i K a w)
  (hfin:∀ (S:Nat->Bool) (a:Act) (w:World),(∀ i,i<l.length->S i=true)->Inv S a w->Q .normal a w):
  ∀ (fuel:Nat) (listed:Array Bool) (S:Nat->Bool) (a:Act) (w:World),listed.size=l.length->(∀ j,j<l.length->listed.getD j true=S j)->Inv S a w ->
   ((List.range l.length).filter fun j=>!S j).length<=fuel->wpAnyIn (fen bb) 0 P .any l.toArray Q fuel listed a w:=by
 intro fuel
 induction fuel with
 |zero=>
  intro listed S a w hs hl hI hc
  have hall:∀ j,j<l.length->S j=true:=by
   intro j hj
   cases h:S j with
   |true=>rfl
   |false=>
    have:j ∈ (List.range l.length).filter fun j=>!S j:=by simp [hj,h]
    rw[List.length_eq_zero_iff.1 (Nat.le_zero.1 hc)] at this
    cases this
  refine⟨?_,hfin S a w hall hI⟩
  cases hr:Region.ready .any l.toArray listed with
  |nil=>rfl
  |cons i _=>
   have:i ∈ Region.ready .any l.toArray listed:=by rw[hr];simp
   obtain⟨o,ho,h2,_⟩:=Go.Gx.mem_ready.1 this
   have hi:=(List.getElem?_eq_some_iff.1 ho).1
   rw[hl i hi,hall i hi] at h2;cases h2
 |succ fuel ih=>
  intro listed S a w hs hl hI hc
  refine⟨fun hr=>hfin S a w (fun i hi=>by rw[<- hl i hi];exact zmk hb hs hr i hi) hI,fun i hi=>?_⟩
  obtain⟨o,ho,h2,h3⟩:=Go.Gx.mem_ready.1 hi
  have hil:=(List.getElem?_eq_some_iff.1 ho).1
  have h3':∀ e ∈ o.after,Region.binds .any e=true->S e.on=true:=by
   intro e he hbe
   have:=h3 e he hbe
   have hlt:=zjn hb ho e he hbe
   rw[<- hl e.on (by omega)]
   rw[Array.getD_eq_getD_getElem?,Array.getElem?_eq_getElem (by omega)] at this |-
   simpa using this
  have hSi:S i=false:=by rw[<- hl i hil];exact h2
  refine hstep _ S a w i o hSi ho h3' hI fun a' w' hI'=>?_
  refine ih _ (jH S i) a' w' (by simpa using hs) ?_ hI' ?_
  ·intro j hj
   rw[zlR (by omega)]
   unfold jH
   split
   ·rfl
   ·exact hl j hj
  ·have hlt:((List.range l.length).filter fun j=>!jH S i j).length<((List.range l.length).filter fun j=>!S j).length:=by
    have e1:((List.range l.length).filter fun j=>!jH S i j)=(((List.range l.length).filter fun j=>!S j)).filter fun j=>decide (j≠i):=by
     rw[List.filter_filter]
     congr 1;funext j
     unfold jH
     by_cases e:j=i<;>simp [e]
    rw[e1]
    refine List.length_filter_lt_length_iff_exists.2 ⟨i,by simp [hil,hSi],by simp⟩
   omega
def VsR(G:Gh)(w:World)(xs:List AV)(sz:Nat)(u:Value):Prop:=∃ (b n c:Nat) (us:Array Value) (T:TypeId) (fr:Nat×Nat),u=.slice (some ⟨b,0,none⟩) n c/\(0<sz/\n*sz=xs.length)/\w.heap[b]?=some (.cells us T fr)/\VL G xs us.toList/\∀ loc v r,G.at loc v=some r->r.b≠b
theorem VsR.step{G G':Gh}{h':za}{w w':World}{xs:List AV}{sz:Nat}{u:Value}(h:VsR G w xs sz u)(hS:Step G G' B h' w w'):VsR G' w' xs sz u:=by
 obtain⟨b,n,c,us,T,fr,h1,h2,h3,h4,h5⟩:=h
 have hb:b<w.heap.size:=(Array.getElem?_eq_some_iff.1 h3).1
 refine⟨b,n,c,us,T,fr,h1,h2,(hS.fr.low b hb fun loc v r hr _=>h5 loc v r hr).trans h3,h4.le hS.le,fun loc v r hr e=>?_⟩
 rcases hS.new loc v r hr with h6|⟨l',v',r',h6,h7⟩
 ·omega
 ·exact h5 _ _ _ h6 (h7.trans e)
structure zlC(P:Program)(G0:Gh)(B:Nat)(w0:World)(ds:List Deferred)(l:List Oper)(env:Arr AV)(h0:za)(recs:List Rec)(S:Nat->Bool)(a:Act)(w:World)(G:Gh):Prop where
 closed:zmU l S
 lt:∀ k,S k=true->k<l.length
 defers:a.defers=ds
 size:a.tmps.size=env.length
 step:Step G0 G B (hAt S h0 0 recs) w0 w
 new:∀ (k:Nat) (o:Oper) (d:Nat) (r:Rec),S k=true->l[k]?=some o->o.dst=some d->recs[k]?=some r->∃ u,a.tmps[d]?=some u/\V G r.val u
 old:∀ (t:Nat) (x:AV),env[t]?=some x->(∀ (k:Nat) (o:Oper),S k=true->l[k]?=some o->o.dst≠some t)->∃ u,a.tmps[t]?=some u/\V G x u
 hole:∀ (k loc n:Nat),S k=false->recs[k]?=some (.hole loc n)->loc<h0.length->G[loc]?=some []
 vs:∀ (k:Nat) (o:Oper) (d:Nat) (xs:List AV) (sz:Nat),S k=true->l[k]?=some o->jF o.op=true->o.dst=some d->recs[k]?=some (.quiet (.vs xs sz))->∃ u,a.tmps[d]?=some u/\VsR G w xs sz u
theorem zlC.put{G0:Gh}{w0:World}{ds:List Deferred}{l:List Oper}{env:Arr AV}{h0:za}{recs:List Rec}{S:Nat->Bool}{a:Act}{w w':World}{G G':Gh}{i:Nat}{o:Oper}{r:Rec}{u:Value}
  (h:zlC P G0 B w0 ds l env h0 recs S a w G) (hi:l[i]?=some o) (hr:recs[i]?=some r) (hS:S i=false) (he:∀ e ∈ o.after,Region.binds .any e=true->S e.on=true)
  (hd:zah (infos l [])=true) (hlt:∀ (k d m:Nat),(infos l [])[k]?=some (some d,m)->d<env.length)
  (hst:Step G0 G' B (hAt (jH S i) h0 0 recs) w0 w') (hle:G.le G') (hV:V G' r.val u) (hh:∀ (k loc n:Nat),k≠i->S k=false->recs[k]?=some (.hole loc n)->loc<h0.length->G'[loc]?=some [])
  (hvs:∀ xs sz u,VsR G w xs sz u->VsR G' w' xs sz u) (hv1:∀ xs sz,jF o.op=true->r=.quiet (.vs xs sz)->VsR G' w' xs sz u):
  zlC P G0 B w0 ds l env h0 recs (jH S i) (a.put o.dst u) w' G':=by
 have hinf:∀ (k:Nat) (o:Oper),l[k]?=some o->∃ m:Nat,(infos l [])[k]?=some (o.dst,m):=by
  intro k o hk
  have hkl:k<(infos l []).length:=by rw[qv];exact(List.getElem?_eq_some_iff.1 hk).1
  have hk2:(infos l [])[k]?=some (infos l [])[k]:=List.getElem?_eq_getElem hkl
  obtain⟨o',h1,h2⟩:=jA (d:=((infos l [])[k]).1) (m:=((infos l [])[k]).2) hk2
  rw[hk] at h1;cases h1
  exact⟨((infos l [])[k]).2,by rw[hk2,h2]⟩
 have hother:∀ t,o.dst≠some t->(a.put o.dst u).tmps[t]?=a.tmps[t]?:=by
  intro t ht
  cases hdst:o.dst with
  |none=>rfl
  |some d=>
   rw[hdst] at ht
   simp only[Act.put]
   rw[Array.getElem?_setIfInBounds_ne (fun e=>ht (by rw[e]))]
 refine⟨fun k o' hk ho' e he' hb=>?_,fun k hk=>?_,?_,?_,hst,fun k o' d r' hk ho' hdst hrec=>?_,fun t x hx hno=>?_,fun k loc n hk hrec=>?_,fun k o' d xs sz hk ho' hb' hdst hrec=>?_⟩
 ·unfold jH at hk |-
  split
  ·rfl
  ·split at hk
   ·rename_i e1;subst e1;rw[hi] at ho';cases ho';exact he e he' hb
   ·exact h.closed k o' hk ho' e he' hb
 ·unfold jH at hk
  split at hk
  ·rename_i e;subst e;exact(List.getElem?_eq_some_iff.1 hi).1
  ·exact h.lt k hk
 ·cases hdst:o.dst<;>exact h.defers
 ·rw[<- h.size]
  cases hdst:o.dst with
  |none=>rfl
  |some d=>simp [Act.put]
 ·unfold jH at hk
  split at hk
  ·rename_i e;subst e
   rw[hi] at ho';cases ho'
   rw[hr] at hrec;cases hrec
   obtain⟨m,hm⟩:=hinf _ _ hi
   rw[hdst] at hm
   have hlt2:=hlt _ _ _ hm
   refine⟨u,?_,hV⟩
   rw[hdst]
   simp only[Act.put]
   rw[Array.getElem?_setIfInBounds_self_of_lt (by rw[h.size];exact hlt2)]
  ·rename_i hne
   obtain⟨u',h1,h2⟩:=h.new k o' d r' hk ho' hdst hrec
   refine⟨u',?_,h2.le hle⟩
   rw[hother d (fun e=>?_)];exact h1
   obtain⟨m1,hm1⟩:=hinf _ _ hi
   obtain⟨m2,hm2⟩:=hinf _ _ ho'
   rw[e] at hm1;rw[hdst] at hm2
   exact hne (qf hd _ _ _ _ _ hm2 hm1)
 ·obtain⟨u',h1,h2⟩:=h.old t x hx (fun k o' hk ho'=>hno k o' (by unfold jH;split<;>first|rfl|exact hk) ho')
  refine⟨u',?_,h2.le hle⟩
  rw[hother t (hno i o (zfY S i) hi)];exact h1
 ·unfold jH at hk
  split at hk
  ·cases hk
  ·rename_i hne
   exact hh k loc n hne hk hrec
 ·unfold jH at hk
  split at hk
  ·rename_i e;subst e
   rw[hi] at ho';cases ho'
   rw[hr] at hrec;cases hrec
   obtain⟨m,hm⟩:=hinf _ _ hi
   rw[hdst] at hm
   have hlt2:=hlt _ _ _ hm
   refine⟨u,?_,hv1 _ _ hb' rfl⟩
   rw[hdst]
   simp only[Act.put]
   rw[Array.getElem?_setIfInBounds_self_of_lt (by rw[h.size];exact hlt2)]
  ·rename_i hne
   obtain⟨u',h1,h2⟩:=h.vs k o' d xs sz hk ho' hb' hdst hrec
   refine⟨u',?_,hvs _ _ _ h2⟩
   rw[hother d (fun e=>?_)];exact h1
   obtain⟨m1,hm1⟩:=hinf _ _ hi
   obtain⟨m2,hm2⟩:=hinf _ _ ho'
   rw[e] at hm1;rw[hdst] at hm2
   exact hne (qf hd _ _ _ _ _ hm2 hm1)
theorem zkR{S:Nat->Bool}{i j:Nat}(h:j≠i):jH S i j=S j:=by simp [jH,h]
theorem jt{l:List Oper}{k:Nat}{o:Oper}(hk:l[k]?=some o):∃ m:Nat,(infos l [])[k]?=some (o.dst,m)/\zhu l k m:=by
 have hkl:k<(infos l []).length:=by rw[qv];exact(List.getElem?_eq_some_iff.1 hk).1
 have hk2:(infos l [])[k]?=some (((infos l [])[k]).1,((infos l [])[k]).2):=List.getElem?_eq_getElem hkl
 obtain⟨o',h1,h2⟩:=jA hk2
 rw[hk] at h1;cases h1
 have hb:=zbP (l0:=l) (l:=l) (acc:=[]) rfl (fun k m h=>by simp at h) k _ _ hk2
 rw[List.length_nil,Nat.zero_add] at hb
 exact⟨_,by rw[hk2,h2],hb⟩
theorem kW{G0:Gh}{w0:World}{ds:List Deferred}{l:List Oper}{env:Arr AV}{vs:List AV}{h0:za}{recs:List Rec}{S:Nat->Bool}{a:Act}{w:World}{G:Gh}{i b:Nat}
  (h:zlC P G0 B w0 ds l env h0 recs S a w G) (hg:zbg P B W0 G w) (hS:S i=false) (hB:∀ j,bit b j=true->S j=true) (hd:zah (infos l [])=true)
  (hvs:∀ (j:Nat) (v:AV),vs[j]?=some v->∃ r,recs[j]?=some r/\r.val=v):∀ x v,evD P (infos l []) env vs i b (hAt S h0 0 recs) x=some v->V G v (a.eval x):=by
 intro x v hv
 have hmev:∀ y,mev P Arr.nil (hAt S h0 0 recs) y=some v->V G v (({ a with tmps:=#[] }:Act).eval y):=fun y hy=>by
  have:=xe (mk:=[]) (a:={ tmps:=#[],defers:=[] }) ⟨rfl,by rw[show(Arr.nil:Arr AV).toL=[] from rfl];exact .nil⟩ h.step.hr hg y v hy
  cases y<;>exact this
 cases x with
 |const c=>exact hmev (.const c) hv
 |global g=>exact hmev (.global g) hv
 |func f=>exact hmev (.func f) hv
 |tmp t=>
  simp only[evD] at hv
  have hfin:(∃ u,a.tmps[t]?=some u/\V G v u)->V G v (a.eval (.tmp t)):=by
   rintro⟨u,h1,h2⟩
   simp only[Act.eval,Array.getD_eq_getD_getElem?,h1]
   exact h2
  apply hfin
  rcases xA hv with⟨j,m,h1,h2,h3⟩|⟨j,m,h1,h2,h3⟩|⟨h1,h2⟩
  ·rw[Nat.zero_add] at h2
   obtain⟨o',e1,e2⟩:=jA h1
   obtain⟨r,e3,e4⟩:=hvs j v h3
   obtain⟨u,e5,e6⟩:=h.new j o' t r (hB j h2) e1 e2 e3
   exact⟨u,e5,e4 ▸ e6⟩
  ·refine h.old t v h3 fun k o' hk ho' hdst=>?_
   obtain⟨m',e1,e2⟩:=jt ho'
   rw[hdst] at e1
   have:=qf hd _ _ _ _ _ e1 h1
   subst this
   rw[h1] at e1;cases e1
   have:=e2 o' ho' S h.closed (fun e he hb=>h.closed k o' hk ho' e he hb) i h2
   rw[hS] at this;cases this
  ·refine h.old t v h2 fun k o' hk ho' hdst=>?_
   obtain⟨m',e1,e2⟩:=jt ho'
   rw[hdst] at e1
   exact h1 _ _ e1
theorem zde{G0:Gh}{w0:World}{ds:List Deferred}{l:List Oper}{env:Arr AV}{vs:List AV}{h0:za}{recs:List Rec}{S:Nat->Bool}{a:Act}{w:World}{G:Gh}{b:Nat}{o:Oper}{wb:Bool}
  (h:zlC P G0 B w0 ds l env h0 recs S a w G) (hB:∀ j,bit b j=true->S j=true) (hvs:∀ (j:Nat) (v:AV),vs[j]?=some v->∃ r,recs[j]?=some r/\r.val=v)
  (hw:zck l o b vs=some wb):Region.wanted o (yielded l.toArray a.tmps)=wb:=by
 unfold zck at hw
 unfold Region.wanted
 cases hgd:o.guard with
 |none=>rw[hgd] at hw;cases hw;rfl
 |some p=>
  obtain⟨g,x⟩:=p
  rw[hgd] at hw
  simp only at hw |-
  split at hw
  ·rename_i q v hb hq hv
   have hq':l.toArray[g]?=some q:=by simpa using hq
   split at hw
   ·rename_i t hdst
    cases hw
    obtain⟨r,e1,e2⟩:=hvs g v hv
    obtain⟨u,e3,e4⟩:=h.new g q t r (hB g hb) hq hdst e1
    rw[e2] at e4
    have:yielded l.toArray a.tmps g=isB (some v):=by
     unfold yielded
     rw[hq']
     simp only[Option.bind_some,hdst,e3]
     cases e4<;>rfl
    rw[this]
   ·rename_i hdst
    cases hw
    have:yielded l.toArray a.tmps g=none:=by
     unfold yielded
     rw[hq']
     simp only[Option.bind_some,hdst,Option.bind_none]
    rw[this];rfl
  ·cases hw
theorem zlb{q:FuncId->Bool}{call:Cal->List AV->za->Option CR}{ops:List Oper}{I:List (Option Nat×Nat)}{env:Arr AV}{base:Nat}{h0 h':za}{done:List Rec}{o:Oper}{v:AV}
  (h:j1 P q call ops I env base h0 done o=some (.act v h')):∃ d b,I[done.length]?=some (d,b)/\kL b 0 done=true:=by
 unfold j1 at h
 split at h
 ·cases h
 ·rename_i d b hI
  refine⟨d,b,hI,?_⟩
  split at h
  ·cases h
  ·cases h
  ·split at h
   ·split at h<;>cases h
   ·split at h<;>cases h
   ·split at h
    ·assumption
    ·split at h<;>cases h
theorem pfx{G0:Gh}{w0:World}{ds:List Deferred}{l:List Oper}{env:Arr AV}{h0:za}{recs:List Rec}{S:Nat->Bool}{a:Act}{w:World}{G:Gh}{q:FuncId->Bool}{call:Cal->List AV->za->Option CR}{base:Nat}
  (h:zlC P G0 B w0 ds l env h0 recs S a w G) (hlen:recs.length=l.length) (hs:∀ (i:Nat) (o:Oper),l[i]?=some o->∃ r,recs[i]?=some r/\j1 P q call l (infos l []) env base h0 (recs.take i) o=some r):
  ∀ (j j':Nat) (r r':Rec),j<j'->recs[j]?=some r->wU r=true->recs[j']?=some r'->wU r'=true->S j'=true->S j=true:=by
 intro j j' r r' hlt hj ha hj' ha' hS
 have hl':j'<l.length:=h.lt j' hS
 have ho':l[j']?=some l[j']:=List.getElem?_eq_getElem hl'
 obtain⟨r2,e1,e2⟩:=hs j' _ ho'
 rw[hj'] at e1;cases e1
 cases r' with
 |act v h'=>
  obtain⟨d,b,e3,e4⟩:=zlb e2
  rw[List.length_take,Nat.min_eq_left (by omega)] at e3
  have hbit:=kj e4 j r (by rw[List.getElem?_take_of_lt hlt];exact hj) ha
  rw[Nat.zero_add] at hbit
  obtain⟨m,e5,e6⟩:=jt ho'
  rw[e3] at e5;cases e5
  exact e6 _ ho' S h.closed (fun e he hb=>h.closed j' _ hS ho' e he hb) j hbit
 |_=>cases ha'
theorem zhK{S:Nat->Bool}{h0:za}{recs:List Rec}{i:Nat}{r:Rec}(hr:recs[i]?=some r)(ha:wU r=false):hAt (jH S i) h0 0 recs=hAt S h0 0 recs:=by
 refine zff fun j r' hj ha'=>?_
 rw[Nat.zero_add]
 refine zkR fun e=>?_
 subst e
 rw[hr] at hj;cases hj
 rw[ha] at ha';cases ha'
theorem zeP{recs:List Rec}{i:Nat}{r:Rec}(hr:recs[i]?=some r):recs=recs.take i++r::recs.drop (i+1):=by
 have hi:=(List.getElem?_eq_some_iff.1 hr).1
 conv=>lhs;rw[<- List.take_append_drop i recs]
 rw[List.drop_eq_getElem_cons hi,(List.getElem?_eq_some_iff.1 hr).2]
theorem zjI{S:Nat->Bool}{h0 h':za}{recs:List Rec}{i:Nat}{v:AV}(hr:recs[i]?=some (.act v h'))(hS:S i=false)
  (hbefore:∀ (j:Nat) (r:Rec),(recs.take i)[j]?=some r->wU r=true->S j=true) (hafter:∀ (j:Nat) (r:Rec),i<j->recs[j]?=some r->wU r=true->S j=false):
  hAt S h0 0 recs=zaL h0 (recs.take i)/\hAt (jH S i) h0 0 recs=h':=by
 have hi:=(List.getElem?_eq_some_iff.1 hr).1
 have hlen:(recs.take i).length=i:=by rw[List.length_take];omega
 have hdrop:∀ (j:Nat) (r:Rec),(recs.drop (i+1))[j]?=some r->wU r=true->S (i+1+j)=false:=fun j r hj ha=>by
  rw[List.getElem?_drop] at hj
  exact hafter _ r (by omega) hj ha
 constructor
 ·have h1:hAt S h0 0 (recs.take i)=zaL h0 (recs.take i):=zeg fun j r hj ha=>by rw[Nat.zero_add];exact hbefore j r hj ha
  conv=>lhs;rw[zeP hr]
  rw[w4,hlen,Nat.zero_add,h1]
  simp only[hAt,hS]
  exact xz hdrop
 ·conv=>lhs;rw[zeP hr]
  rw[w4,hlen,Nat.zero_add]
  simp only[hAt,zfY,if_true]
  exact xz fun j r hj ha=>by
   rw[zkR (by omega)]
   exact hdrop j r hj ha
theorem zbW{i b:Nat}:∀ {l:List Rec} {I:List (Option Nat×Nat)} {k:Nat},settled i b l I k=true->∀ (j:Nat) (r:Rec),l[j]?=some r->wU r=true->∃ d m,I[j]?=some (d,m)/\(k+j<i->bit b (k+j)=true)/\(i<=k+j->bit m i=true)
 | [],I,k,h,j,r,hj,ha=>by simp at hj
 |_::_,[],k,h,j,r,hj,ha=>by simp [settled] at h
 |r0::l,(d,m)::I,k,h,j,r,hj,ha=>by
  simp only[settled,Bool.and_eq_true] at h
  cases j with
  |zero=>
   simp at hj;subst hj
   cases r0 with
   |act v h'=>
    refine⟨d,m,rfl,fun hlt=>?_,fun hle=>?_⟩
    ·have h1:=h.1
     rw[Nat.add_zero] at hlt |-
     have:Nat.blt k i=true:=by simpa [Nat.blt_eq] using hlt
     rw[this] at h1;exact h1
    ·have h1:=h.1
     rw[Nat.add_zero] at hle
     have:Nat.blt k i=false:=by
      cases hb:Nat.blt k i with
      |false=>rfl
      |true=>rw[Nat.blt_eq] at hb;omega
     rw[this] at h1;exact h1
   |_=>cases ha
  |succ j=>
   have:=zbW h.2 j r (by simpa using hj) ha
   rwa [show k+1+j=k+(j+1) by omega] at this
theorem zgy{S:Nat->Bool}{h0:za}{recs:List Rec}{I:List (Option Nat×Nat)}{i b:Nat}(hB:∀ j,bit b j=true->S j=true)(hI:∀ (j:Nat) (d:Option Nat) (m:Nat),I[j]?=some (d,m)->bit m i=true->S (0+j)=false)(hi:i<=recs.length)(h:settled i b recs I 0=true):
  hAt S h0 0 recs=zaL h0 (recs.take i):=by
 have hlen:(recs.take i).length=i:=by rw[List.length_take];omega
 have hs:=zbW h
 have h1:hAt S h0 0 (recs.take i)=zaL h0 (recs.take i):=zeg fun j r hj ha=>by
  rw[List.getElem?_take] at hj
  split at hj
  ·obtain⟨d,m,_,h2,_⟩:=hs j r hj ha
   rw[Nat.zero_add] at h2 |-
   exact hB _ (h2 (by assumption))
  ·cases hj
 conv=>lhs;rw[<- List.take_append_drop i recs]
 rw[w4,hlen,Nat.zero_add,h1]
 exact xz fun j r hj ha=>by
  rw[List.getElem?_drop] at hj
  obtain⟨d,m,h2,_,h3⟩:=hs _ r hj ha
  have:=hI _ d m h2 (h3 (by omega))
  rwa [Nat.zero_add] at this
theorem kD:∀ (a b:List Rec),wC (a++b)=wC a+wC b
 | [],b=>by simp [wC]
 |r::a,b=>by
  cases r<;>simp only[List.cons_append,wC,kD a b]<;>omega
theorem zfF{recs:List Rec}{j k loc n:Nat}(hj:recs[j]?=some (.hole loc n))(hk:j<k):wC (recs.take j)<wC (recs.take k):=by
 have:recs.take k=recs.take j++.hole loc n::(recs.take k).drop (j+1):=by
  have hj':(recs.take k)[j]?=some (.hole loc n):=by rw[List.getElem?_take_of_lt hk];exact hj
  have h1:=zeP hj'
  rw[List.take_take,Nat.min_eq_left (by omega)] at h1
  exact h1
 rw[this,kD]
 simp only[wC]
 omega
theorem zdW{q:FuncId->Bool}{call:Cal->List AV->za->Option CR}{ops:List Oper}{I:List (Option Nat×Nat)}{env:Arr AV}{base loc n:Nat}{h0:za}{done:List Rec}{o:Oper}
  (h:j1 P q call ops I env base h0 done o=some (.hole loc n)):loc=base+wC done/\∃ t z,o.op=.alloc t/\zeroOf P t=some z/\n=z.cells.length:=by
 unfold j1 at h
 split at h
 ·cases h
 ·split at h
  ·cases h
  ·cases h
  ·split at h
   ·rename_i t hk
    split at h
    ·rename_i z hz
     cases h
     refine⟨rfl,t,z,?_,hz,rfl⟩
     replace hk:=zdH hk
     generalize o.op=op at hk
     cases op<;>first
      |(cases hk;rfl)
      |(cases hk;done)
      |(simp only[kindOf] at hk;repeat' split at hk;all_goals (cases hk;done))
    ·cases h
   ·split at h<;>cases h
   ·split at h
    ·split at h
     ·cases h
     ·split at h<;>cases h
    ·split at h<;>cases h
theorem zf9{e:Operand->Option AV}{op:Op}{v:AV}(h:zhs P e op=some v):∃ t el len n z parts ps cs,op=.buildSlice t len parts/\P.underlying t=some (.slice el)/\zc0 parts.toList=true/\wI P el=some (n+1)/\zeroOf P el=some z/\qH e parts.toList=some ps /\
  len*(n+1)<=2 ^ 24/\z.cells.length=n+1/\zbr (fun i=>some (i*(n+1),n+1)) (zY z.cells (len*(n+1))) ps=some cs/\v=.vs cs (n+1):=by
 unfold zhs at h
 split at h
 ·rename_i t len parts
  split at h
  ·rename_i el h1 h2
   split at h
   ·rename_i n z ps h3 h4 h5
    split at h
    ·rename_i hc
     split at h
     ·rename_i cs hf
      cases h
      exact⟨t,el,len,n,z,parts,ps,cs,rfl,h1,h2,h3,h4,h5,hc.1,hc.2,hf,rfl⟩
     ·cases h
    ·cases h
   ·cases h
  ·cases h
 ·cases h
theorem zbR{e e':Operand->Option AV}:∀ {l:List (Nat×Operand)} {ps:List (Nat×AV)},zc0 l=true->(∀ x y,(∀ g,x≠.global g)->e x=some y->e' x=some y)->qH e l=some ps->qH e' l=some ps
 | [],ps,_,_,h=>h
 |(i,x)::l,ps,hp,he,h=>by
  unfold qH at h
  split at h
  ·rename_i v vs h1 h2
   cases h
   have hx:∀ g,x≠.global g:=by intro g e;subst e;cases hp
   have hl:zc0 l=true:=by cases x<;>first|exact hp|exact absurd rfl (hx _)
   unfold qH
   rw[he _ _ hx h1,zbR hl he h2]
  ·cases h
theorem ze3{t b:Nat}:∀ {l:List Oper} {I:List (Option Nat×Nat)} {k:Nat},zqG t b l I k=true->∃ (j:Nat) (o:Oper) (m:Nat),l[j]?=some o/\I[j]?=some (some t,m)/\bit b (k+j)=true/\jF o.op=true
 | [],I,k,h=>by cases h
 |o::l,[],k,h=>by cases h
 |o::l,(d,m)::I,k,h=>by
  rcases(Bool.or_eq_true _ _).mp h with h|h
  ·cases d with
   |none=>cases h
   |some d'=>
    simp only[Bool.and_eq_true] at h
    obtain rfl:=Nat.eq_of_beq_eq_true h.1.1
    exact⟨0,o,m,rfl,rfl,h.1.2,h.2⟩
  ·obtain⟨j,o',m',h1,h2,h3,h4⟩:=ze3 h
   exact⟨j+1,o',m',by simpa using h1,by simpa using h2,by rw[show k+(j+1)=k+1+j by omega];exact h3,h4⟩
theorem zhn{q:FuncId->Bool}{call:Cal->List AV->za->Option CR}{ops:List Oper}{I:List (Option Nat×Nat)}{env:Arr AV}{base:Nat}{h0 h':za}{done:List Rec}{o:Oper}{v:AV}
  (h:j1 P q call ops I env base h0 done o=some (.act v h')) (hb:jF o.op=true):∃ a b c,v=.sl a 0 b c 0 false:=by
 unfold jF at hb
 split at hb
 ·rename_i t len parts hop
  unfold j1 at h
  split at h
  ·cases h
  ·split at h
   ·cases h
   ·cases h
   ·rw[hop] at h
    split at h
    ·split at h<;>cases h
    ·split at h<;>cases h
    ·split at h
     ·split at h
      ·rename_i v1 h1 hm
       cases h
       simp only[zdL,mop] at hm
       cases hps:qH (evD P I env (done.map Rec.val) done.length _ (zaL h0 done)) parts.toList with
       |none=>rw[hps] at hm;cases hm
       |some ps=>
        rw[hps] at hm
        dsimp only at hm
        cases hmb:jk P t len ps (zaL h0 done) with
        |none=>rw[hmb] at hm;cases hm
        |some z=>
         obtain⟨z1,z2⟩:=z
         rw[hmb] at hm
         cases hm
         unfold jk at hmb
         repeat' split at hmb
         all_goals first|(cases hmb;done)|(cases hmb;exact⟨_,_,_,rfl⟩)
      ·simp only[zmS] at h
       cases h
     ·split at h<;>cases h
 ·cases hb
theorem zhr{G0:Gh}{w0:World}{ds:List Deferred}{l:List Oper}{env:Arr AV}{h0 h':za}{recs:List Rec}{S:Nat->Bool}{a:Act}{w:World}{G:Gh}{i b:Nat}{vs:List AV}{v:AV}
  (hI:zlC P G0 B w0 ds l env h0 recs S a w G) (hB:∀ j,bit b j=true->S j=true) (hIS:∀ (j:Nat) (d:Option Nat) (m:Nat),(infos l [])[j]?=some (d,m)->bit m i=true->S (0+j)=false) (hd:zah (infos l [])=true)
  (hev:∀ x v,evD P (infos l []) env vs i b (hAt S h0 0 recs) x=some v->V G v (a.eval x)) (hvs:∀ (j:Nat) (v:AV),vs[j]?=some v->∃ r,recs[j]?=some r/\r.val=v)
  (hact:∀ (j:Nat) (o:Oper) (y:AV) (hh:za),l[j]?=some o->recs[j]?=some (.act y hh)->jF o.op=true->∃ a b c,y=.sl a 0 b c 0 false)
  {op:Op} (hm:zmS P l (infos l []) b (evD P (infos l []) env vs i b (hAt S h0 0 recs)) (hAt S h0 0 recs) op=some (v,h')):
  ∃ w' u G',(∀ dst ty pos after g,(execOp a.eval ⟨dst,op,ty,pos,after,g⟩).run P w=.ok (.value u) w')/\Step G G' B h' w w'/\V G' v u:=by
 unfold zmS at hm
 split at hm
 ·rename_i c
  split at hm
  ·rename_i t t2 s x hcal hats hargs
   split at hm
   ·rename_i sv xs sz h1 h2 h3
    split at hm
    ·rename_i el el2 ht ht2
     split at hm
     ·rename_i ii hi
      split at hm
      ·rename_i z hz
       split at hm
       ·rename_i hc
        obtain⟨hzs,hby,rfl⟩:=hc
        obtain⟨j,o,m,k1,k2,k3,k4⟩:=ze3 h3
        rw[Nat.zero_add] at k3
        have hSj:=hB j k3
        have hrec:recs[j]?=some (.quiet (.vs xs ii.size)):=by
         rcases xA h2 with⟨j',m',e1,e2,e3⟩|⟨j',m',e1,e2,e3⟩|⟨e1,e2⟩
         ·have:=qf hd _ _ _ _ _ k2 e1
          subst this
          obtain⟨r,e4,e5⟩:=hvs j _ e3
          cases r with
          |quiet y=>cases(show y=_ from e5);exact e4
          |act y hh=>
           cases(show y=_ from e5)
           obtain⟨_,_,_,e6⟩:=hact j o _ _ k1 e4 k4
           cases e6
          |off=>cases e5
          |hole=>cases e5
         ·have:=qf hd _ _ _ _ _ k2 e1
          subst this
          have:=hIS j _ _ e1 e2
          rw[Nat.zero_add,hSj] at this;cases this
         ·exact absurd k2 (e1 j m)
        obtain⟨o2,hdo,_⟩:=jA k2
        rw[k1] at hdo;cases hdo
        obtain⟨o3,q1,q2⟩:=jA k2
        rw[k1] at q1;cases q1
        obtain⟨u,g1,bb,n,cc,us,T,fr,rfl,⟨g0,g2⟩,g3,g4,g5⟩:=hI.vs j o x xs ii.size hSj k1 k4 q2 hrec
        have hux:a.eval (.tmp x)=.slice (some ⟨bb,0,none⟩) n cc:=by
         simp only[Act.eval,Array.getD_eq_getD_getElem?,g1];rfl
        have hk:xs.length/ii.size=n:=by rw[<- g2];exact Nat.mul_div_cancel _ g0
        rw[hk] at hm
        have hone:xs.all AV.one=true:=by
         unfold app at hm
         split at hm
         ·rename_i hq;exact hq.1
         ·cases hm
        obtain⟨w',u,G',hrun,hS,hV⟩:=kT (t2:=t2) (ty:=0) hI.step.hr (hev _ _ h1) hm ht hi hz hzs hby (Src.ofSlice w ht2 _ n cc us.toList (by rw[g4.length];exact g2.symm) (fun j u hu=>by
         rw[Addr.add_lit]
         show w.cell? ⟨bb,0+j,none⟩=some u
         unfold World.cell?
         simp only[g3,Nat.zero_add,Option.isSome_none,Bool.false_eq_true,if_false]
         simpa using hu) (g4.one hone)) g4
        refine⟨w',u,G',?_,hS,hV⟩
        intros
        obtain⟨callee,args,ats⟩:=c
        simp only at hcal hats hargs
        subst hcal
        obtain rfl:args=#[s,.tmp x]:=by rw[<- Array.toArray_toList (xs:=args),hargs]
        obtain rfl:ats=#[t,t2]:=by rw[<- Array.toArray_toList (xs:=ats),hats]
        rw[zg]
        simp only[builtin,Sem.run_bind]
        have:∀ ty ty' (ar:Array Value),Builtin.append_ #[t,t2] ty ar=Builtin.append_ #[t,t2] ty' ar:=fun _ _ _=>rfl
        rw[this _ 0,show(#[s,.tmp x]:Array Operand).map a.eval=#[a.eval s,.slice (some ⟨bb,0,none⟩) n cc] by rw[<- hux];simp,hrun]
        rfl
       ·cases hm
      ·cases hm
     ·cases hm
    ·cases hm
   ·cases hm
  ·cases hm
 ·cases hm
theorem zif{q:FuncId->Bool}{call:Cal->List AV->za->Option CR}(hcall:zbH P B W0 call)(hqc:QC call q){G0:Gh}{w0:World}{ds:List Deferred}{l:List Oper}{env:Arr AV}{h0:za}{recs:List Rec}{base:Nat}(hg:zbg P B W0 G0 w0){hh0:za}(hr0:HR G0 B hh0 w0)(hbase:G0.length=base)
  (hd:zah (infos l [])=true) (hlt:∀ (k d m:Nat),(infos l [])[k]?=some (some d,m)->d<env.length) (hlen:recs.length=l.length)
  (hs:∀ (i:Nat) (o:Oper),l[i]?=some o->∃ r,recs[i]?=some r/\j1 P q call l (infos l []) env base h0 (recs.take i) o=some r)
  (hchk:zjt P q call (infos l []) env (recs.map Rec.val) h0 recs l (infos l []) recs 0=true)
  {K:Act->World->Prop} {S:Nat->Bool} {a:Act} {w:World} {i:Nat} {o:Oper} (hS:S i=false) (ho:l[i]?=some o) (he:∀ e ∈ o.after,Region.binds .any e=true->S e.on=true)
  (hI:∃ G,zlC P G0 B w0 ds l env h0 recs S a w G) (hK:∀ a' w',(∃ G,zlC P G0 B w0 ds l env h0 recs (jH S i) a' w' G)->K a' w'):wpOpIn (fen bb) 0 P l.toArray Q i K a w:=by
 obtain⟨G,hI⟩:=hI
 obtain⟨r,hr,hst⟩:=hs i o ho
 obtain⟨b,hIb,hBef⟩:=jt ho
 have hB:∀ j,bit b j=true->S j=true:=hBef o ho S hI.closed he
 have hgG:zbg P B W0 G w:=hg.step hr0 hI.step
 have hil:i<recs.length:=(List.getElem?_eq_some_iff.1 hr).1
 have hvs1:∀ (j:Nat) (v:AV),((recs.take i).map Rec.val)[j]?=some v->∃ r,recs[j]?=some r/\r.val=v:=by
  intro j v hj
  rw[List.getElem?_map,Option.map_eq_some_iff] at hj
  obtain⟨r',h1,h2⟩:=hj
  rw[List.getElem?_take] at h1
  split at h1
  ·exact⟨r',h1,h2⟩
  ·cases h1
 have hvs2:∀ (j:Nat) (v:AV),(recs.map Rec.val)[j]?=some v->∃ r,recs[j]?=some r/\r.val=v:=by
  intro j v hj
  rw[List.getElem?_map,Option.map_eq_some_iff] at hj
  exact hj
 have hP:=pfx hI hlen hs
 have hIS:∀ (j:Nat) (d:Option Nat) (m:Nat),(infos l [])[j]?=some (d,m)->bit m i=true->S (0+j)=false:=by
  intro j d m hj hb
  rw[Nat.zero_add]
  cases hSj:S j with
  |false=>rfl
  |true=>
   obtain⟨o',e1,e2⟩:=jA hj
   obtain⟨m',e3,e4⟩:=jt e1
   rw[hj] at e3;cases e3
   have:=e4 o' e1 S hI.closed (fun e he' hb'=>hI.closed j o' hSj e1 e he' hb') i hb
   rw[hS] at this;cases this
 have hQ:∀ {cond:za->Bool},goQ cond i b recs (infos l []) 0 h0=true->cond (hAt S h0 0 recs)=true:=fun h=>
  zfc hB (by rw[qv,hlen]) hIS (fun j j' r r' h1 h2 h3 h4 h5 h6=>by rw[Nat.zero_add] at h6 |-;exact hP j j' r r' h1 h2 h3 h4 h5 h6) h
 have hck:=ze6 hchk i o o.dst b r ho hIb hr
 rw[Nat.zero_add] at hck
 have hput:=fun {w':World} {G':Gh} {u:Value} (h1:Step G0 G' B (hAt (jH S i) h0 0 recs) w0 w') (h2:G.le G') (h3:V G' r.val u) h4 h5 h6=>hI.put ho hr hS he hd hlt h1 h2 h3 h4 h5 h6
 have ho':l.toArray[i]?=some o:=by simpa using ho
 unfold wpOpIn
 rw[ho']
 dsimp only
 have hlt_i:(recs.take i).length=i:=by rw[List.length_take];omega
 have hstep0:=hst
 unfold j1 at hst
 rw[hlt_i,hIb] at hst
 simp only at hst
 have hhole:∀ (k loc n:Nat),recs[k]?=some (.hole loc n)->∃ ok t z,l[k]?=some ok/\loc=base+wC (recs.take k)/\ok.op=.alloc t/\zeroOf P t=some z/\n=z.cells.length:=by
  intro k loc n hrec
  have hkl:k<l.length:=by rw[<- hlen];exact(List.getElem?_eq_some_iff.1 hrec).1
  obtain⟨r2,e1,e2⟩:=hs k _ (List.getElem?_eq_getElem hkl)
  rw[hrec] at e1;cases e1
  obtain⟨h1,t,z,h2,h3,h4⟩:=zdW e2
  exact⟨_,t,z,List.getElem?_eq_getElem hkl,h1,h2,h3,h4⟩
 have hquiet:wU r=false->∀ (G':Gh) (w':World) (u:Value),Step G G' B (hAt S h0 0 recs) w w'->V G' r.val u->(∀ xs sz,jF o.op=true->r=.quiet (.vs xs sz)->VsR G' w' xs sz u)->K (a.put o.dst u) w':=by
  intro hra G' w' u hS' hV hv1
  exact hK _ _ ⟨G',hput (by rw[zhK hr hra];exact hI.step.trans hS') hS'.le hV (fun k loc n hk hSk hrec hloc=>hS'.hole _ (hI.hole k loc n hSk hrec hloc)) (fun _ _ _ h=>h.step hS') hv1⟩
 split at hst
 ·cases hst
 ·
  rename_i hw
  cases hst
  rw[zde hI hB hvs1 hw,if_neg (by simp)]
  exact⟨fun f _=>zaI bb f,hquiet rfl G w undef (.refl hI.step.hr) (.tup .nil) (fun _ _ _ e=>by cases e)⟩
 ·rename_i hw
  rw[zde hI hB hvs1 hw,if_pos rfl]
  split at hst
  ·
   rename_i t hk
   split at hst
   ·rename_i z hz
    cases hst
    obtain⟨loc,hlocd⟩:∃ loc,loc=base+wC (recs.take i):=⟨_,rfl⟩
    rw[<- hlocd] at hr hck hput hquiet hstep0
    obtain⟨o2,t2,z2,q1,q2,q3,q4,q5⟩:=hhole i loc _ hr
    rw[ho] at q1;cases q1
    have ht2:t2=t:=by have hk:=zdH hk;rw[q3] at hk;cases hk;rfl
    subst ht2
    rw[hz] at q4;cases q4
    simp only[zlO,q3,Bool.and_eq_true] at hck
    obtain⟨hc1,hc2⟩:=hck
    have hc1':loc<h0.length:=by simpa using hc1
    have hcond:=hQ hc2
    unfold zjw at hcond
    rw[hz] at hcond
    split at hcond
    ·rename_i z' cells t' hz' hrow
     cases hz'
     simp only[Bool.and_eq_true] at hcond
     have e1:=Nat.eq_of_beq_eq_true hcond.1
     have e2:=AV.km _ _ hcond.2
     subst e1;subst e2
     have hGl:=hI.hole i loc _ hS hr hc1'
     obtain⟨u,hrun,hv,_⟩:=jv (P:=P) G hz
     obtain⟨dst,op,ty,pos,after,guard⟩:=o
     simp only at q3
     subst q3
     unfold Oper.wpIn
     refine⟨fun f _=>zaI bb f,?_⟩
     rw[Oper.semAt_eq _ _ _ (fun c hc=>by cases hc)]
     have hx:(execOp a.eval ⟨dst,.alloc t',ty,pos,after,guard⟩).run P w=.ok (.value (.pointer (some ⟨w.heap.size,0,none⟩))) (w.alloc (.cells u.cells t')):=by
      simp [execOp,Instr.alloc,newVar,newRow,hrun]
     rw[hx,Oper.uponIn_value]
     have hbG:G0.length<=loc:=by omega
     have hcz:=hv.cells
     have hul:=hcz.length
     rw[Array.length_toList] at hul
     have hgl:loc<G.length:=(List.getElem?_eq_some_iff.1 hGl).1
     have hle:G.le (G.set loc [⟨w.heap.size,0,z.cells.length,u.cells.size,0⟩]):=by
      intro l v r' ha
      unfold Gh.at at *
      by_cases e:l=loc
      ·subst e;rw[hGl] at ha;simp at ha
      ·rw[List.getElem?_set_ne (fun q=>e q.symm)];exact ha
     have hone:∀ (v:Nat) (r:Ver),[(⟨w.heap.size,0,z.cells.length,u.cells.size,0⟩:Ver)][v]?=some r->v=0/\r=⟨w.heap.size,0,z.cells.length,u.cells.size,0⟩:=by
      intro v r hv
      cases v with
      |zero=>simp at hv;exact⟨rfl,hv.symm⟩
      |succ v=>simp at hv
     have hnew:=heap_alloc_new w (.cells u.cells t')
     have hF:=Step.fill (r:=⟨w.heap.size,0,z.cells.length,u.cells.size,0⟩) (w':=w.alloc (.cells u.cells t')) hI.step hrow hGl hbG rfl (Nat.le_refl _) (by simp) (by simp) (fun k hk=>(xw.alloc [] w _).block k hk (by simp)) rfl rfl rfl
      (.inr ⟨rfl,fun v r hv _=>by
        obtain⟨rfl,rfl⟩:=hone v r hv
        refine⟨u.cells,t',(0,0),hnew,fun t e=>Option.some.inj e,rfl,by simp;omega,fun p _ hp=>?_⟩
        obtain⟨y,f1,f2⟩:=hcz.get (List.getElem?_eq_getElem (show p<z.cells.length from hp))
        exact⟨_,y,List.getElem?_eq_getElem _,by rw[Nat.sub_zero,<- Array.getElem?_toList];exact f1,f2.le hle⟩,
       fun r hv=>by
        obtain⟨_,rfl⟩:=hone 0 r hv
        exact⟨rfl,u.cells,t',(0,0),hnew,Nat.le_refl _,fun j _ _ q=>by omega,fun _=>.inl rfl⟩,
       fun v r hv=>by
        obtain⟨_,rfl⟩:=hone v r hv
        exact⟨Nat.zero_le _,Nat.le_refl _⟩,
       fun v1 v2 r1 r2 e1 e2 _=>by
        obtain⟨_,rfl⟩:=hone v1 r1 e1
        obtain⟨_,rfl⟩:=hone v2 r2 e2
        rfl,
       Nat.le_refl _,fun v r hv=>(by
        obtain⟨_,rfl⟩:=hone v r hv
        rfl),Nat.zero_le _⟩)
     refine hK _ _ ⟨_,hput (by rw[zhK hr rfl];exact hF) hle (.ptr (r:=⟨w.heap.size,0,z.cells.length,u.cells.size,0⟩) ?_ (Nat.zero_le _) (Nat.le_refl _)) (fun k loc2 n hk2 hSk hrec hloc=>?_) (fun xs sz u' hv'=>?_) (fun _ _ e=>by cases e)⟩
     ·unfold Gh.at
      rw[List.getElem?_set_self hgl]
      rfl
     ·have hne:loc≠loc2:=by
       obtain⟨_,_,_,_,g2,_⟩:=hhole k loc2 n hrec
       rcases Nat.lt_or_ge k i with hki|hki
       ·have:=zfF hrec hki;omega
       ·have:=zfF hr (show i<k by omega);omega
      rw[List.getElem?_set_ne hne]
      exact hI.hole k loc2 n hSk hrec hloc
     ·obtain⟨b',n',c',us',T',fr',g1,g2,g3,g4,g5⟩:=hv'
      have hb':b'<w.heap.size:=(Array.getElem?_eq_some_iff.1 g3).1
      refine⟨b',n',c',us',T',fr',g1,g2,((xw.alloc [] w _).block b' hb' (by simp)).trans g3,g4.le hle,fun l v r' ha=>?_⟩
      unfold Gh.at at ha
      by_cases e:l=loc
      ·subst e
       rw[List.getElem?_set_self hgl] at ha
       obtain⟨_,rfl⟩:=hone v r' ha
       exact fun e=>by simp at e;omega
      ·rw[List.getElem?_set_ne (fun q=>e q.symm)] at ha
       exact g5 l v r' ha
    ·cases hcond
   ·cases hst
  ·
   rename_i hk
   split at hst
   ·rename_i v h' hm
    cases hst
    have hnb:jF o.op=false:=by
     cases hbu:jF o.op with
     |false=>rfl
     |true=>
      unfold jF at hbu
      split at hbu
      ·rename_i heq;rw[heq] at hk;cases hk
      ·cases hbu
    have hnv:zqu v o.op=false:=by unfold zqu;split<;>first|rfl|exact hnb
    rw[show(zlO P q call (infos l []) env (recs.map Rec.val) h0 recs i b o (.quiet v))=(settled i b recs (infos l []) 0||goQ (zid P q call (infos l []) env (recs.map Rec.val) i b o v) i b recs (infos l []) 0 h0||zqu v o.op) from rfl,hnv,Bool.or_false] at hck
    rcases(Bool.or_eq_true _ _).mp hck with hset|hck
    ·rw[<- zgy (S:=S) hB hIS (Nat.le_of_lt hil) hset] at hm
     have:=(znc hqc hk (fun _=>rfl) hm).1
     subst this
     have hev:=kW hI hgG hS hB hd hvs1
     exact zbq hcall hev hI.step.hr hgG hm fun u w' G' hS' hV=>hquiet rfl G' w' u hS' hV (fun _ _ e _=>by rw[hnb] at e;cases e)
    have hcond:=hQ hck
    unfold zid at hcond
    split at hcond
    ·rename_i v' h2 hm2
     have:=AV.beq_eq _ _ hcond
     subst this
     have:=(znc hqc hk (fun _=>rfl) hm2).1
     subst this
     have hev:=kW hI hgG hS hB hd hvs2
     exact zbq hcall hev hI.step.hr hgG hm2 fun u w' G' hS' hV=>hquiet rfl G' w' u hS' hV (fun _ _ e _=>by rw[hnb] at e;cases e)
    ·cases hcond
   ·cases hst
  ·
   rename_i hk
   split at hst
   ·rename_i hin
    have hact:∀ {v:AV} {h':za},recs[i]?=some (.act v h')->r=.act v h'->∀ (u:Value) (w':World) (G':Gh),Step G G' B h' w w'->V G' v u->K (a.put o.dst u) w':=by
     intro v h' hr hrv u w' G' hS' hV
     obtain⟨e1,e2⟩:=zjI hr hS (fun j r' hj ha=>hB j (by have:=kj hin j r' hj ha;rwa [Nat.zero_add] at this)) (fun j r' hij hj ha=>by
      cases hSj:S j with
      |false=>rfl
      |true=>have:=hP i j _ r' hij hr rfl hj ha hSj;rw[hS] at this;cases this)
     exact hK _ _ ⟨G',hput (by rw[e2];exact hI.step.trans hS') hS'.le (by rw[hrv];exact hV) (fun k loc n hk hSk hrec hloc=>hS'.hole _ (hI.hole k loc n hSk hrec hloc)) (fun _ _ _ h=>h.step hS') (fun _ _ _ e=>by rw[hrv] at e;cases e)⟩
    have hat:∀ {v:AV} {h':za},recs[i]?=some (.act v h')->hAt S h0 0 recs=zaL h0 (recs.take i):=fun hr=>
     (zjI hr hS (fun j r' hj ha=>hB j (by have:=kj hin j r' hj ha;rwa [Nat.zero_add] at this)) (fun j r' hij hj ha=>by
      cases hSj:S j with
      |false=>rfl
      |true=>have:=hP i j _ r' hij hr rfl hj ha hSj;rw[hS] at this;cases this)).1
    split at hst
    ·rename_i v h' hm
     cases hst
     rw[<- hat hr] at hm
     have hev:=kW hI hgG hS hB hd hvs1
     exact zbq hcall hev hI.step.hr hgG hm fun u w' G' hS' hV=>hact hr rfl u w' G' hS' hV
    ·split at hst
     ·rename_i v h' hm
      cases hst
      rw[<- hat hr] at hm
      have hev:=kW hI hgG hS hB hd hvs1
      obtain⟨w',u,G',hrun,hS',hV⟩:=zhr hI hB hIS hd hev hvs1 (fun j o' y hh ho' hr' hb'=>by
       obtain⟨r2,e1,e2⟩:=hs j o' ho'
       rw[hr'] at e1;cases e1
       exact zhn e2 hb') hm
      obtain⟨dst,op,ty,pos,after,guard⟩:=o
      unfold Oper.wpIn
      refine⟨fun f _=>zaI bb f,?_⟩
      rw[Oper.semAt_eq _ _ _ (fun c hc=>by simp only at hc;subst hc;cases hm),hrun,Oper.uponIn_value]
      exact hact hr rfl u w' G' hS' hV
     ·cases hst
   ·split at hst
    ·rename_i v hm
     cases hst
     have hev:=kW hI hgG hS hB hd hvs1
     have hevP:∀ h x y,(∀ g,x≠.global g)->evD P (infos l []) env ((recs.take i).map Rec.val) i b h x=some y->evD P (infos l []) env ((recs.take i).map Rec.val) i b (hAt S h0 0 recs) x=some y:=by
      intro h x y hg h1
      cases x with
      |global g=>exact absurd rfl (hg g)
      |_=>exact h1
     obtain⟨t,el,len,n,z,parts,ps,cs,hop,hd1,hpl,hn,hz,hps,hc1,hc2,hf,rfl⟩:=zf9 hm
     obtain⟨us',hvu,hcl,hrun⟩:=ze4 (w:=w) hev (zbR hpl (hevP _) hps) hd1 hn hz hc1 hc2 hf
     obtain⟨dst,op,ty,pos,after,guard⟩:=o
     simp only at hop
     subst hop
     unfold Oper.wpIn
     refine⟨fun f _=>zaI bb f,?_⟩
     rw[Oper.semAt_eq _ _ _ (fun c hc=>by cases hc),hrun,Oper.uponIn_value]
     have hSw:Step G G B (hAt S h0 0 recs) w (w.alloc (.cells us'.toArray el)):=Step.grow hI.step.hr (by simp) (fun b hb=>(xw.alloc [] w _).block b hb (by simp)) rfl rfl rfl
     refine hquiet rfl G _ _ hSw .vs (fun xs sz _ e=>?_)
     cases e
     exact⟨_,_,_,us'.toArray,el,(0,0),rfl,⟨Nat.succ_pos _,hcl.symm⟩,heap_alloc_new w _,by simpa using hvu,fun loc v r hr e=>by have:=hI.step.hr.lt _ _ _ hr;omega⟩
    ·cases hst
theorem zan:∀ {l:List Oper} {hs:List Blk},qM P l=some hs->∀ b ∈ hs,∃ cells t,b=.row cells 0 0 0 false (some t)
 | [],hs,h,b,hb=>by cases h;cases hb
 |o::l,hs,h,b,hb=>by
  unfold qM at h
  split at h
  ·rename_i t bs hop hbs
   split at h
   ·rename_i z hz
    cases h
    rcases List.mem_cons.1 hb with rfl|hb
    ·exact⟨_,_,rfl⟩
    ·exact zan hbs b hb
   ·cases h
  ·exact zan h b hb
theorem Step.zpj{w:World}:∀ {hs:List Blk} {G:Gh} {h:za},HR G B h w->(∀ b ∈ hs,∃ cells t,b=.row cells 0 0 0 false (some t))->Step G (G++List.replicate hs.length []) B (h++hs) w w
 | [],G,h,hr,_=>by rw[Arr.jE,List.length_nil,List.replicate_zero,List.append_nil];exact Step.refl hr
 |b::hs,G,h,hr,hb=>by
  obtain⟨cells,t,rfl⟩:=hb b List.mem_cons_self
  have h1:Step G (G++[[]]) B (h++[Blk.row cells 0 0 0 false (some t)]) w w:=Step.push hr rfl (Nat.le_refl _) (fun _ _=>rfl) rfl rfl rfl (fun v r hv=>by simp at hv) (.inl rfl)
  have h2:=Step.zpj h1.hr (fun b' hb'=>hb b' (List.mem_cons_of_mem _ hb'))
  have h3:=h1.trans h2
  rw[List.append_assoc] at h3
  rw[List.length_cons,List.replicate_succ]
  exact h3
theorem zfu{q:FuncId->Bool}{call:Cal->List AV->za->Option CR}(hm:P.follows .mixedOrders=true)(hcall:zbH P B W0 call)(hqc:QC call q){l:List Oper}{env:Arr AV}{mk:List Dfd}{h:za}{r:OR}{G:Gh}{a0:Act}{w:World}{id:Nat}
  (he:xU P q call l env h mk=some r) (ha:AR G env mk a0) (hr:HR G B h w) (hg:zbg P B W0 G w):
  ∃ env' h',r=.ok env' h' mk/\((∀ G' a' w',Step G G' B h' w w'->AR G' env' mk a'->Q .normal a' w')->(Code.region id l.toArray true).wpIn (fen bb) 0 P Q a0 w):=by
 unfold xU at he
 split at he
 ·rename_i hs hbd hhs
  simp only[Bool.and_eq_true] at hbd
  obtain⟨hb,hd⟩:=hbd
  unfold zes at he
  split at he
  ·cases he
  ·rename_i recs hst
   split at he
   ·rename_i hchk
    unfold zge at he
    split at he
    ·rename_i env' hfe
     cases he
     refine⟨env',_,rfl,fun hok=>?_⟩
     obtain⟨hlen,_,hs1⟩:=zdX hst
     simp only[List.length_nil,Nat.zero_add] at hlen hs1
     have hil:(infos l []).length=recs.length:=by rw[qv,hlen]
     obtain⟨f1,f2,f3⟩:=zcK hil hfe
     have hH:=Step.zpj hr (zan hhs)
     have hH2:Step G (G++List.replicate hs.length []) B (h++hs) w { w with drawn:=w.drawn+1 }:=hH.trans (Step.grow hH.hr (Nat.le_refl _) (fun _ _=>rfl) rfl rfl rfl)
     refine wpIn_region_any hm ?_
     refine zjA hb (fun S a w'=>∃ G',zlC P G B w a0.defers l env (h++hs) recs S a w' G') (fun K S a w i o hS ho hed hI hK=>zif hcall hqc hg hr hr.len hd f2 hlen hs1 hchk hS ho hed hI hK) ?_ _ _ (fun _=>false) _ _ (by simp) (fun j hj=>by rw[Array.getD_eq_getD_getElem?,Array.getElem?_replicate];simp [hj]) ?_ ?_
     ·rintro S a' w' hall ⟨G',hD⟩
      have hh:hAt S (h++hs) 0 recs=zaL (h++hs) recs:=zeg fun j r hj _=>by
       rw[Nat.zero_add]
       exact hall j (by rw[<- hlen];exact(List.getElem?_eq_some_iff.1 hj).1)
      have hstep:=hD.step
      rw[hh] at hstep
      refine hok G' a' w' hstep ⟨by rw[hD.defers];exact ha.defers.le hstep.le,VL.za2 (by rw[Array.length_toList,hD.size,Arr.qz,f1]) fun t x u hx hu=>?_⟩
      rw[Arr.zS] at hx
      rw[Array.getElem?_toList] at hu
      rcases f3 t x hx with⟨k,m,r,e1,e2,e3⟩|⟨e1,e2⟩
      ·obtain⟨o,e4,e5⟩:=jA e1
       obtain⟨u',e6,e7⟩:=hD.new k o t r (hall k (List.getElem?_eq_some_iff.1 e4).1) e4 e5 e2
       rw[hu] at e6;cases e6
       rw[e3];exact e7
      ·obtain⟨u',e6,e7⟩:=hD.old t x e2 fun k o hk ho hdst=>by
        obtain⟨m,e8,_⟩:=jt ho
        rw[hdst] at e8
        exact e1 _ _ e8
       rw[hu] at e6;cases e6
       exact e7
     ·refine⟨G++List.replicate hs.length [],⟨(fun k o hk=>by cases hk),(fun k hk=>by cases hk),rfl,?_,?_,(fun k o d r hk=>by cases hk),fun t x hx _=>?_,fun k loc n _ hrec hloc=>?_,(fun k o d xs sz hk=>by cases hk)⟩⟩
      ·exact ha.size
      ·rw[xz (fun _ _ _ _=>rfl)];exact hH2
      ·obtain⟨u,e1,e2⟩:=ha.get hx
       rw[Array.getElem?_toList] at e1
       exact⟨u,e1,e2.le hH2.le⟩
      ·have hkl:k<l.length:=by rw[<- hlen];exact(List.getElem?_eq_some_iff.1 hrec).1
       obtain⟨r2,e1,e2⟩:=hs1 k _ (List.getElem?_eq_getElem hkl)
       rw[hrec] at e1;cases e1
       have hloc2:=(zdW e2).1
       have hgl:=hr.len
       rw[List.getElem?_append_right (by omega),List.getElem?_replicate,if_pos (by rw[Arr.zv] at hloc;omega)]
     ·simpa using List.length_filter_le (fun j=>!false) (List.range l.length)
    ·cases he
   ·cases he
 ·cases he
end
def calm:Rec->Bool
 |.off|.quiet _=>true
 |_=>false
theorem zjC{P:Program}{I:List (Option Nat×Nat)}{env:Arr AV}{vs:List AV}{i b:Nat}{h h2:za}(hx:Ext h h2)(o:Operand)(v:AV)(q:evD P I env vs i b h o=some v):evD P I env vs i b h2 o=some v:=by
 cases o with
 |tmp t=>exact q
 |const c=>exact zat (P:=P) (env:=Arr.nil) (o:=.const c) hx q
 |func f=>exact zat (P:=P) (env:=Arr.nil) (o:=.func f) hx q
 |global g=>exact zat (P:=P) (env:=Arr.nil) (o:=.global g) hx q
theorem kZ{h:za}:∀ {l:List Rec},l.all calm=true->zaL h l=h
 | [],_=>rfl
 |r::l,hl=>by
  simp only[List.all_cons,Bool.and_eq_true] at hl
  rw[zdE (by cases r<;>first|rfl|cases hl.1)]
  exact kZ hl.2
theorem zhJ{cond:za->Bool}{i b:Nat}:∀ {l:List Rec} {I:List (Option Nat×Nat)} {k:Nat} {cur:za},l.all calm=true->goQ cond i b l I k cur=cond cur
 | [],I,k,cur,_=>by cases I<;>rfl
 |r::l,[],k,cur,hl=>by cases r<;>rfl
 |r::l,(d,m)::I,k,cur,hl=>by
  simp only[List.all_cons,Bool.and_eq_true] at hl
  have ih:=zhJ (cond:=cond) (i:=i) (b:=b) (l:=l) (I:=I) (k:=k+1) (cur:=cur) hl.2
  cases r<;>first|exact ih|cases hl.1
theorem zoP{P:Program}{q:FuncId->Bool}{call:Cal->List AV->za->Option CR}{ops:List Oper}{I:List (Option Nat×Nat)}{env:Arr AV}{base:Nat}{h0:za}{done:List Rec}{o:Oper}{r:Rec}(hk:kindOf P o.op=.quiet)(hd:done.all calm=true)
  (hm:j1 P q call ops I env base h0 done o=some r):calm r=true/\∀ (base2:Nat) (h2:za),Ext h0 h2->j1 P q call ops I env base2 h2 done o=some r:=by
 unfold j1 at hm |-
 rw[zhM hk,kZ hd] at hm
 split at hm
 ·cases hm
 ·rename_i d b hI
  split at hm
  ·cases hm
  ·cases hm
   exact⟨rfl,fun base2 h2 hx=>rfl⟩
  ·rename_i hw
   dsimp only at hm
   split at hm
   ·rename_i v h' hmo
    cases hm
    refine⟨rfl,fun base2 h2 hx=>?_⟩
    rw[zhM hk,kZ hd]
    dsimp only
    rw[(zj7 hk hmo).2 _ h2 hx (fun y v=>zjC hx y v)]
   ·cases hm
theorem zlc{P:Program}{q:FuncId->Bool}{call:Cal->List AV->za->Option CR}{ops:List Oper}{I:List (Option Nat×Nat)}{env:Arr AV}{base:Nat}{h0:za}:∀ {l:List Oper} {done recs:List Rec},zm0 P l=true->done.all calm=true ->
  steps P q call ops I env base h0 l done=some recs->recs.all calm=true/\∀ (base2:Nat) (h2:za),Ext h0 h2->steps P q call ops I env base2 h2 l done=some recs
 | [],done,recs,_,hd,hm=>by cases hm;exact⟨hd,fun _ _ _=>rfl⟩
 |o::l,done,recs,hq,hd,hm=>by
  simp only[zm0,List.all_cons,Bool.and_eq_true] at hq
  unfold steps at hm |-
  cases hs:j1 P q call ops I env base h0 done o with
  |none=>rw[hs] at hm;cases hm
  |some r=>
   rw[hs] at hm
   obtain⟨h1,h2⟩:=zoP (quiet_of hq.1) hd hs
   obtain⟨h3,h4⟩:=zlc (done:=done++[r]) hq.2 (by simp [hd,h1]) hm
   refine⟨h3,fun base2 g hx=>?_⟩
   rw[h2 base2 g hx]
   exact h4 base2 g hx
theorem zpa{P:Program}{q:FuncId->Bool}{call:Cal->List AV->za->Option CR}{I:List (Option Nat×Nat)}{env:Arr AV}{vs:List AV}{h0 h2:za}{recs:List Rec}{i b:Nat}{o:Oper}{r:Rec}(hx:Ext h0 h2)(hk:kindOf P o.op=.quiet)(hr:calm r=true)(hd:recs.all calm=true)
  (hm:zlO P q call I env vs h0 recs i b o r=true):zlO P q call I env vs h2 recs i b o r=true:=by
 cases r<;>first|(cases hr;done)|skip
 ·rfl
 ·rename_i v
  unfold zlO at hm |-
  dsimp only at hm |-
  rw[zhJ hd] at hm |-
  rcases(Bool.or_eq_true _ _).mp hm with hm|hm
  rotate_left
  ·exact(Bool.or_eq_true _ _).mpr (.inr hm)
  refine(Bool.or_eq_true _ _).mpr (.inl ?_)
  rcases(Bool.or_eq_true _ _).mp hm with hs|hm
  ·rw[hs];rfl
  ·refine(Bool.or_eq_true _ _).mpr (.inr ?_)
   unfold zid at hm |-
   split at hm
   ·rename_i v' h' hmo
    rw[(zj7 hk hmo).2 _ h2 hx (fun y v=>zjC hx y v)]
    exact hm
   ·cases hm
theorem zm3{P:Program}{q:FuncId->Bool}{call:Cal->List AV->za->Option CR}{I:List (Option Nat×Nat)}{env:Arr AV}{vs:List AV}{h0 h2:za}{recs:List Rec}(hx:Ext h0 h2)(hd:recs.all calm=true):∀ {l:List Oper} {I':List (Option Nat×Nat)} {rs:List Rec} {i:Nat},zm0 P l=true->rs.all calm=true ->
  zjt P q call I env vs h0 recs l I' rs i=true->zjt P q call I env vs h2 recs l I' rs i=true
 | [],I',rs,i,_,_,hm=>by cases I'<;>cases rs<;>exact hm
 |o::l,[],rs,i,_,_,hm=>by cases rs<;>exact hm
 |o::l,(d,b)::I',[],i,_,_,hm=>hm
 |o::l,(d,b)::I',r::rs,i,hq,hr,hm=>by
  simp only[zm0,List.all_cons,Bool.and_eq_true] at hq hr
  unfold zjt at hm |-
  simp only[Bool.and_eq_true] at hm |-
  exact⟨zpa hx (quiet_of hq.1) hr.1 hd hm.1,zm3 hx hd hq.2 hr.2 hm.2⟩
theorem zjP{P:Program}:∀ {l:List Oper},zm0 P l=true->qM P l=some []
 | [],_=>rfl
 |o::l,hq=>by
  simp only[zm0,List.all_cons,Bool.and_eq_true] at hq
  have ih:qM P l=some []:=zjP hq.2
  have hk:=quiet_of hq.1
  unfold qM
  rw[ih]
  split
  ·rename_i t bs ho _;rw[ho] at hk;cases hk
  ·rfl
theorem zl1{P:Program}{q:FuncId->Bool}{call:Cal->List AV->za->Option CR}{ops:List Oper}{env:Arr AV}{h:za}{mk:List Dfd}{r:OR}(hq:zm0 P ops=true)(hm:xU P q call ops env h mk=some r):
  ∃ env',r=.ok env' h mk/\∀ h2,Ext h h2->xU P q call ops env h2 mk=some (.ok env' h2 mk):=by
 unfold xU at hm |-
 rw[zjP hq] at hm |-
 split at hm
 ·rename_i hs hb hh
  cases hh
  rw[Arr.jE] at hm
  unfold zes at hm |-
  split at hm
  ·cases hm
  ·rename_i recs hst
   obtain⟨h1,h2⟩:=zlc hq rfl hst
   split at hm
   ·rename_i hc
    obtain⟨env',h3,rfl⟩:=zc5 hm
    rw[kZ h1]
    refine⟨env',rfl,fun g hx=>?_⟩
    rw[Arr.jE,h2 g.length g hx]
    dsimp only
    rw[zm3 hx h1 hq h1 hc,kZ h1,h3]
    rfl
   ·cases hm
 ·cases hm
def zcB(P:Program):List Oper->List (Option Nat×Nat)->Nat->Nat->Bool
 |o::l,(_,b)::I,i,m=>match kindOf P o.op with
  |.act=>Nat.beq (m &&& b) m&&zcB P l I (i+1) (m ||| (1 <<< i))
  |_=>zcB P l I (i+1) m
 |_,_,_,_=>true
def noQ(_:FuncId):Bool:=false
def zfy(P:Program)(q:FuncId->Bool)(ops:List Oper):FuncId->Bool:=match zcB P ops (infos ops []) 0 0 with
 |true=>noQ
 |false=>q
theorem zl7{P:Program}{q:FuncId->Bool}{call:Cal->List AV->za->Option CR}{ops:List Oper}(h:QC call q):QC call (zfy P q ops):=by
 unfold zfy
 split
 ·intro f hf;cases hf
 ·exact h
theorem zei{P:Program}{op:Op}:zdl P noQ op=kindOf P op:=by
 unfold zdl
 cases hK:kindOf P op with
 |act=>
  cases op<;>first|rfl|skip
  case call c=>dsimp only;split<;>rfl
 |_=>rfl
def zka(p:Option Code)(st:St):Option (Ex×St):=match p with
 |none=>some (.normal,st)
 |some .ret=>some (.ret,st)
 |some (.exit id)=>some (.exit id,st)
 |_=>none
def wB(l:Nat)(env:Arr AV)(dl:List Dfd)(rnd:Option Nat):Option CR->Option (Ex×St)
 |some (.ret _ h2)=>match h2[l]? with
  |some (.loop e2 ps asg body s p)=>match s with
   |.busy=>none
   |_=>zka p ⟨env,h2.set l (.loop e2 ps asg body .exhausted p),dl,rnd⟩
  |_=>none
 |some (.pan v h2)=>some (.panic v,⟨env,h2,dl,rnd⟩)
 |none=>none
def zhQ(P:Program)(call:Cal->List AV->za->Option CR)(g:Operand)(ps:Array Tmp)(asg body:Code)(st:St):Option (Ex×St):=
 match mev P st.env st.h g with
 |some (.fn f first cap)=>if((P.funcs[f]?).bind (·.body)).isSome=true then match st.rnd with
  |none=>wB (st.h.length+1) st.env (.mark st.h.length::st.dl) none (call (.f f) (first++[.yld (st.h.length+1)]++cap) (st.h++[Blk.dfr]++[Blk.loop st.env ps asg body .ready none]))
  |some lo=>match st.h[lo]? with
   |some (.loop ..)=>wB st.h.length st.env st.dl (some lo) (call (.f f) (first++[.yld st.h.length]++cap) (st.h++[Blk.loop st.env ps asg body .ready none]))
   |_=>none
  else none
 |_=>none
def zX(P:Program)(qs:FuncId->Bool)(run:Code->St->Option (Ex×St))(call:Cal->List AV->za->Option CR):Code->St->Option (Ex×St)
 |.skip,st=>some (.normal,st)
 |.label _,st=>some (.normal,st)
 |.ret,st=>some (.ret,st)
 |.exit id,st=>some (.exit id,st)
 |.region _ ops false,st=>zjc st.rnd (zeW P call ops st.rnd ops.toList st.env st.h st.dl)
 |.region _ ops true,st=>zjc st.rnd (xU P (zfy P qs ops.toList) call ops.toList st.env st.h st.dl)
 |.seq a b,st=>match run a st with
  |some (.normal,st')=>run b st'
  |r=>r
 |.cond c a b,st=>match mev P st.env st.h c with
  |some (.bool true)=>run a st
  |some (.bool false)=>run b st
  |_=>none
 |.block id c,st=>match run c st with
  |some (.exit id',st')=>if id'=id then some (.normal,st') else some (.exit id',st')
  |r=>r
 |.loop c,st=>match run c st with
  |some (.normal,st')=>run (.loop c) st'
  |r=>r
 |.rangeFunc g ps asg body,st=>zhQ P call g ps asg body st
 |_,_=>none
def zfA(P:Program)(env:Arr AV)(h:za):List ResultVar->Option (List AV)
 | []=>some []
 |.tmp t::l=>match env[t]?,zfA P env h l with
  |some v,some vs=>some (v::vs)
  |_,_=>none
 |.cell a T::l=>match env[a]?,zfA P env h l with
  |some (.ptr loc off ver lim),some vs=>match zeV P T,wI P T with
   |some true,some n=>match rd h loc off ver lim n with|some cs=>some (.agg cs::vs)|none=>none
   |some false,_=>match rd h loc off ver lim 1 with|some [v]=>some (v::vs)|_=>none
   |_,_=>none
  |_,_=>none
def zmi:List AV->AV
 | [v]=>v
 |vs=>.tup vs
def mstart(run:Code->St->Option (Ex×St))(fn:Func)(args:List AV)(h:za):Option (Ex×St):=
 match fn.body with
 |some c=>if args.length<=fn.ntmps then run c ⟨Arr.of (args++List.replicate (fn.ntmps-args.length) .undef),h,[],none⟩ else none
 |none=>none
inductive Pn where
 |no|up (v:AV)|re (v:AV)
def Pn.settle:Pn->Pn
 |.re _=>.no
 |p=>p
def Pn.got:Pn->AV
 |.up v=>v
 |_=>.xQ
def Pn.zo9:Pn->Pn
 |.up v=>.re v
 |p=>p
def isRec(o:Oper):Bool:=match o.op,o.guard with
 |.call c,none=>match c.callee with
  |.builtin .recover=>true
  |_=>false
 |_,_=>false
def zb1(pn:Pn):Option (Ex×St)->Option (Ex×St×Pn)
 |some (e,st)=>some (e,st,pn)
 |none=>none
def mdc(run:Code->St->Option (Ex×St)):Code->St->Pn->Option (Ex×St×Pn)
 |.seq a b,st,pn=>match mdc run a st pn with
  |some (.normal,st',pn')=>mdc run b st' pn'
  |r=>r
 |.region id ops false,st,pn=>match ops.toList with
  | [o]=>match isRec o with
   |true=>match zdT st.env o.dst pn.got with
    |some env'=>some (.normal,⟨env',st.h,st.dl,st.rnd⟩,pn.zo9)
    |none=>none
   |false=>zb1 pn (run (.region id ops false) st)
  |_=>zb1 pn (run (.region id ops false) st)
 |c,st,pn=>zb1 pn (run c st)
def w7(P:Program)(run:Code->St->Option (Ex×St))(f:FuncId)(args:List AV)(h:za)(pn:Pn):Option (za×Pn):=
 match P.funcs[f]? with
 |some fn=>match fn.body with
  |some c=>if args.length<=fn.ntmps then match mdc run c ⟨Arr.of (args++List.replicate (fn.ntmps-args.length) .undef),h,[],none⟩ pn with
   |some (.normal,st,pn')=>match st.dl,zfA P st.env st.h fn.results.toList with | [],some _=>some (st.h,pn')|_,_=>none
   |some (.ret,st,pn')=>match st.dl,zfA P st.env st.h fn.results.toList with | [],some _=>some (st.h,pn')|_,_=>none
   |_=>none
   else none
  |none=>none
 |none=>none
def mleave(dcall:FuncId->List AV->za->Pn->Option (za×Pn)):List Dfd->za->Pn->Option (za×Pn)
 | [],h,pn=>some (h,pn)
 |.mark loc::l,h,pn=>match h[loc]? with
  |some .dfr=>mleave dcall l (h.set loc .gone) pn
  |_=>none
 |.call f args cap::l,h,pn=>match dcall f (args++cap) h pn with
  |some (h',pn')=>mleave dcall l h' pn'.settle
  |none=>none
def zix(P:Program)(fn:Func)(env:Arr AV):Option (za×Pn)->Option CR
 |some (h,.no)=>match zfA P env h fn.results.toList with
  |some vs=>some (.ret (zmi vs) h)
  |none=>none
 |some (h,.up v)=>some (.pan v h)
 |_=>none
def zcb(P:Program)(run:Code->St->Option (Ex×St))(f:FuncId)(args:List AV)(h:za):Option CR:=
 match P.funcs[f]? with
 |some fn=>match mstart run fn args h with
  |some (.normal,st)=>zix P fn st.env (mleave (w7 P run) st.dl st.h .no)
  |some (.ret,st)=>zix P fn st.env (mleave (w7 P run) st.dl st.h .no)
  |some (.panic v,st)=>zix P fn st.env (mleave (w7 P run) st.dl st.h (.up v))
  |_=>none
 |none=>none
def zcW(loc:Nat)(h:za)(e:Ex):Option CR:=match h[loc]? with
 |some (.loop env ps asg body _ _)=>match e with
  |.normal=>some (.ret (.bool true) (h.set loc (.loop env ps asg body .ready none)))
  |.ret=>some (.ret (.bool false) (h.set loc (.loop env ps asg body .done (some .ret))))
  |.exit id=>some (.ret (.bool false) (h.set loc (.loop env ps asg body .done (some (.exit id)))))
  |.panic _=>none
 |_=>none
def zn7(run:Code->St->Option (Ex×St))(loc:Nat)(body:Code)(st:St):Option CR:=match st.h[loc]? with
 |some (.loop e2 p2 a2 b2 .ready pd)=>match run body ⟨st.env,st.h.set loc (.loop e2 p2 a2 b2 .busy pd),st.dl,some loc⟩ with
  |some (e,st2)=>zcW loc st2.h e
  |none=>none
 |_=>none
def zhR(run:Code->St->Option (Ex×St))(loc:Nat)(args:List AV)(h:za):Option CR:=match h[loc]? with
 |some (.loop env ps asg body _ _)=>if args.length=ps.size then
   match run asg ⟨(ps.toList.zip args).foldl (fun e p=>e.set p.1 p.2) env,h,[],some loc⟩ with
   |some (.normal,st)=>zn7 run loc body st
   |_=>none
  else none
 |_=>none
def qy(P:Program)(hk:qc)(run:Code->St->Option (Ex×St))(c:Cal)(args:List AV)(h:za):Option CR:=
 match c with
 |.f f=>match hk f with
  |some g=>g args h
  |none=>zcb P run f args h
 |.y loc=>zhR run loc args h
def qfn(P:Program)(hk:qc):Nat->FuncId->Bool
 |0,_=>false
 |n+1,f=>match hk f,P.funcs[f]? with
  |none,some fn=>match fn.body with
   |some c=>zfN P (qfn P hk n) c
   |none=>false
  |_,_=>false
def qQ(P:Program)(hk:qc):Nat->Code->St->Option (Ex×St)
 |0,_,_=>none
 |n+1,c,st=>zX P (qfn P hk 4) (qQ P hk n) (qy P hk (qQ P hk n)) c st
def RQ(P:Program)(q:FuncId->Bool)(run:Code->St->Option (Ex×St)):Prop:=∀ (c:Code) (st:St) (e:Ex) (st':St),zfN P q c=true->run c st=some (e,st') ->
 ∃ env',st'=⟨env',st.h,st.dl,st.rnd⟩/\(∀ v,e≠.panic v)/\∀ h2,Ext st.h h2->run c ⟨st.env,h2,st.dl,st.rnd⟩=some (e,⟨env',h2,st.dl,st.rnd⟩)
theorem zn8{P:Program}{q qs:FuncId->Bool}{run:Code->St->Option (Ex×St)}{call:Cal->List AV->za->Option CR}(hc:QC call q)(hr:RQ P q run):RQ P q (zX P qs run call):=by
 intro c st e st' hq hm
 obtain⟨env,h,dl,rnd⟩:=st
 cases c<;>first|(cases hq;done)|skip
 case skip=>cases hm;exact⟨_,rfl,(fun v h=>nomatch h),fun h2 _=>rfl⟩
 case label=>cases hm;exact⟨_,rfl,(fun v h=>nomatch h),fun h2 _=>rfl⟩
 case ret=>cases hm;exact⟨_,rfl,(fun v h=>nomatch h),fun h2 _=>rfl⟩
 case exit=>cases hm;exact⟨_,rfl,(fun v h=>nomatch h),fun h2 _=>rfl⟩
 case region id ops b=>
  cases b with
  |true=>
   unfold zX at hm |-
   dsimp only at hm |-
   cases hmo:xU P (zfy P qs ops.toList) call ops.toList env h dl with
   |none=>rw[hmo] at hm;cases hm
   |some r=>
    rw[hmo] at hm
    obtain⟨env',rfl,h1⟩:=zl1 hq hmo
    cases hm
    exact⟨_,rfl,(fun v h=>nomatch h),fun h2 hx=>by rw[h1 h2 hx];rfl⟩
  |false=>
   unfold zX at hm |-
   dsimp only at hm |-
   cases hmo:zeW P call ops rnd ops.toList env h dl with
   |none=>rw[hmo] at hm;cases hm
   |some r=>
    rw[hmo] at hm
    obtain⟨env',rfl,h1⟩:=zkh hc hq hmo
    cases hm
    exact⟨_,rfl,(fun v h=>nomatch h),fun h2 hx=>by rw[h1 h2 hx];rfl⟩
 case seq a b=>
  simp only[zfN,Bool.and_eq_true] at hq
  unfold zX at hm |-
  dsimp only at hm |-
  cases ha:run a ⟨env,h,dl,rnd⟩ with
  |none=>rw[ha] at hm;cases hm
  |some x=>
   obtain⟨e1,st1⟩:=x
   rw[ha] at hm
   obtain⟨env1,rfl,h1,h2⟩:=hr a _ _ _ hq.1 ha
   cases e1 with
   |normal=>
    obtain⟨env2,rfl,h3,h4⟩:=hr b _ _ _ hq.2 hm
    exact⟨env2,rfl,h3,fun g hx=>by rw[h2 g hx];exact h4 g hx⟩
   |_=>cases hm;exact⟨env1,rfl,h1,fun g hx=>by rw[h2 g hx]⟩
 case cond x a b=>
  simp only[zfN,Bool.and_eq_true] at hq
  unfold zX at hm |-
  dsimp only at hm |-
  split at hm
  ·rename_i hx1
   obtain⟨env2,rfl,h3,h4⟩:=hr a _ _ _ hq.1 hm
   exact⟨env2,rfl,h3,fun g hx=>by rw[zat hx hx1];exact h4 g hx⟩
  ·rename_i hx1
   obtain⟨env2,rfl,h3,h4⟩:=hr b _ _ _ hq.2 hm
   exact⟨env2,rfl,h3,fun g hx=>by rw[zat hx hx1];exact h4 g hx⟩
  ·cases hm
 case block id c=>
  unfold zX at hm |-
  dsimp only at hm |-
  cases ha:run c ⟨env,h,dl,rnd⟩ with
  |none=>rw[ha] at hm;cases hm
  |some x=>
   obtain⟨e1,st1⟩:=x
   rw[ha] at hm
   obtain⟨env1,rfl,h1,h2⟩:=hr c _ _ _ hq ha
   cases e1 with
   |exit id'=>
    dsimp only at hm
    by_cases hi:id'=id
    ·rw[if_pos hi] at hm;cases hm
     exact⟨env1,rfl,(fun v h=>nomatch h),fun g hx=>by rw[h2 g hx];dsimp only;rw[if_pos hi]⟩
    ·rw[if_neg hi] at hm;cases hm
     exact⟨env1,rfl,h1,fun g hx=>by rw[h2 g hx];dsimp only;rw[if_neg hi]⟩
   |_=>cases hm;exact⟨env1,rfl,h1,fun g hx=>by rw[h2 g hx]⟩
 case loop c=>
  unfold zX at hm |-
  dsimp only at hm |-
  cases ha:run c ⟨env,h,dl,rnd⟩ with
  |none=>rw[ha] at hm;cases hm
  |some x=>
   obtain⟨e1,st1⟩:=x
   rw[ha] at hm
   obtain⟨env1,rfl,h1,h2⟩:=hr c _ _ _ hq ha
   cases e1 with
   |normal=>
    obtain⟨env2,rfl,h3,h4⟩:=hr (.loop c) _ _ _ hq hm
    exact⟨env2,rfl,h3,fun g hx=>by rw[h2 g hx];exact h4 g hx⟩
   |_=>cases hm;exact⟨env1,rfl,h1,fun g hx=>by rw[h2 g hx]⟩
theorem zeu{P:Program}{env:Arr AV}{h h2:za}(hx:Ext h h2):∀ {l:List ResultVar} {vs:List AV},zfA P env h l=some vs->zfA P env h2 l=some vs
 | [],vs,hm=>hm
 |.tmp t::l,vs,hm=>by
  unfold zfA at hm |-
  split at hm
  ·rename_i h1 h2;rw[zeu hx h2];rw[h1];exact hm
  ·cases hm
 |.cell a T::l,vs,hm=>by
  unfold zfA at hm |-
  split at hm
  ·rename_i h1 h2;rw[zeu hx h2];rw[h1]
   dsimp only at hm |-
   split at hm
   ·split at hm
    ·rename_i h5;rw[zfQ hx h5];exact hm
    ·cases hm
   ·split at hm
    ·rename_i h5;rw[zfQ hx h5];exact hm
    ·cases hm
   ·cases hm
  ·cases hm
theorem zn6{P:Program}{q:FuncId->Bool}{run:Code->St->Option (Ex×St)}(hr:RQ P q run){f:FuncId}{fn:Func}{c:Code}(hf:P.funcs[f]?=some fn)(hb:fn.body=some c)(hq:zfN P q c=true)
  {args:List AV} {h:za} {r:CR} (hm:zcb P run f args h=some r):∃ v,r=.ret v h/\∀ h2,Ext h h2->zcb P run f args h2=some (.ret v h2):=by
 unfold zcb at hm |-
 rw[hf] at hm |-
 unfold mstart at hm |-
 dsimp only at hm |-
 rw[hb] at hm |-
 dsimp only at hm |-
 by_cases hl:args.length<=fn.ntmps
 ·rw[if_pos hl] at hm
  cases hrn:run c ⟨Arr.of (args++List.replicate (fn.ntmps-args.length) .undef),h,[],none⟩ with
  |none=>rw[hrn] at hm;cases hm
  |some x=>
   obtain⟨e,st⟩:=x
   rw[hrn] at hm
   obtain⟨env',rfl,h1,h2⟩:=hr c _ _ _ hq hrn
   have key:zix P fn env' (some (h,.no))=some r->∃ v,r=.ret v h/\∀ h2,Ext h h2->zix P fn env' (some (h2,.no))=some (.ret v h2):=by
    intro hm
    unfold zix at hm |-
    dsimp only at hm |-
    split at hm
    ·rename_i h3;cases hm;exact⟨_,rfl,fun g hx=>by rw[zeu hx h3]⟩
    ·cases hm
   cases e with
   |normal=>
    obtain⟨v,h3,h4⟩:=key hm
    exact⟨v,h3,fun g hx=>by rw[if_pos hl,h2 g hx];exact h4 g hx⟩
   |ret=>
    obtain⟨v,h3,h4⟩:=key hm
    exact⟨v,h3,fun g hx=>by rw[if_pos hl,h2 g hx];exact h4 g hx⟩
   |exit id=>cases hm
   |panic v=>exact absurd rfl (h1 v)
 ·rw[if_neg hl] at hm;cases hm
theorem zpM{P:Program}{hk:qc}{q:FuncId->Bool}(hc:∀ n,QC (qy P hk (qQ P hk n)) q):∀ n,RQ P q (qQ P hk n)
 |0=>fun c st e st' _ hm=>by cases hm
 |n+1=>fun c st e st' hq hm=>zn8 (hc n) (zpM hc n) c st e st' hq hm
theorem zfO{P:Program}{hk:qc}:∀ k n,QC (qy P hk (qQ P hk n)) (qfn P hk k)
 |0,n=>fun f hf=>by cases hf
 |k+1,n=>fun f hf args h r hm=>by
  unfold qfn at hf
  split at hf
  ·rename_i fn hh hfn
   split at hf
   ·rename_i c hb
    unfold qy at hm |-
    dsimp only at hm |-
    rw[hh] at hm |-
    exact zn6 (zpM (zfO k) n) hfn hb hf hm
   ·cases hf
  ·cases hf
def zja(P:Program):Prop:=∀ (f:Nat) (fn:Func),P.funcs[f]?=some fn->(fn.name == "runtime.NumGoroutine")=false
theorem enters_of{P:Program}(hng:zja P){f:FuncId}(h:((P.funcs[f]?).bind (·.body)).isSome=true):Enters P f:=by
 cases hf:P.funcs[f]? with
 |none=>rw[hf] at h;cases h
 |some fn=>
  rw[hf] at h
  cases hb:fn.body with
  |none=>simp [hb] at h
  |some c=>exact Enters.mk hf (hng f fn hf) (by rw[hb];rfl)
section
variable {P:Program} {B:Nat} {W0:World}
theorem Step.turn{G:Gh}{h:za}{w:World}{loc:Nat}{blk blk':Blk}{r:Ver}{o:Obj}(hr:HR G B h w)(hl:h[loc]?=some blk)(hg:G[loc]?=some [r])(ho:blk.own=true)(ho':blk'.own=true)
  (hB:zje G (w.putObj r.b o) blk' [r]):Step G G B (h.set loc blk') w (w.putObj r.b o):=by
 have hset:G.set loc [r]=G:=qJ hg
 have:=Step.upd (vs':=[r]) (w':=w.putObj r.b o) (blk':=blk') hr hl hg ho ho' ⟨0,r,rfl,rfl⟩ (Nat.le_of_eq World.putObj_size.symm) (fun k _ hk=>World.putObj_heap_other hk) rfl rfl rfl (fun v r' h=>h) (fun v r' h=>.inr ⟨v,r',h,rfl⟩) (fun _=>by rw[hset];exact hB)
 rwa [hset] at this
theorem xB{G:Gh}{h:za}{w:World}{loc:Nat}{env:Arr AV}{ps:Array Tmp}{asg body:Code}{s:LoopState}{p:Option Code}{r:Ver}(hr:HR G B h w)(hl:h[loc]?=some (.loop env ps asg body s p))(hat:G.at loc 0=some r):
  G[loc]?=some [r]/\r.b<w.heap.size/\∃ L:Loop,w.heap[r.b]?=some (.loop L)/\L.state=s/\L.pending=p/\L.params=ps/\L.assign=asg/\L.body=body/\VL G env.toL L.tmps.toList:=by
 obtain⟨b,vs,hb,hg,hv,hR⟩:=hr.get hat
 rw[hl] at hb;cases hb
 rcases hR with rfl|⟨r0,rfl,L,h1⟩
 ·simp at hv
 ·simp at hv;subst hv
  exact⟨hg,hr.lt _ _ _ hat,L,h1⟩
theorem k9{G:Gh}{h:za}{w:World}{loc:Nat}{env:Arr AV}{ps:Array Tmp}{asg body:Code}{s:LoopState}{p:Option Code}{r:Ver}(hr:HR G B h w)(hl:h[loc]?=some (.loop env ps asg body s p))(hat:G.at loc 0=some r)(s':LoopState)(p':Option Code){L:Loop}(hL:w.heap[r.b]?=some (.loop L)):
  Step G G B (h.set loc (.loop env ps asg body s' p')) w (w.putObj r.b (.loop { L with state:=s',pending:=p' })):=by
 obtain⟨hg,hlt,L',h1,h2,h3,h4,h5,h6,h7⟩:=xB hr hl hat
 rw[hL] at h1;cases h1
 exact Step.turn hr hl hg rfl rfl (.inr ⟨r,rfl,_,World.putObj_heap_same hlt,rfl,rfl,h4,h5,h6,h7⟩)
theorem zaF.trans{G G':Gh}{w w':World}{h':za}{e:Ex}{st:St}{x:Exit}{a:Act}{w'':World}(hS:Step G G' B h' w w')(h:zaF G' B w' e st x a w''):zaF G B w e st x a w'':=by
 obtain⟨G2,S2,hx⟩:=h
 exact⟨G2,hS.trans S2,hx⟩
theorem za5{F:Fence}{m:Nat}{c:Code}{Q Q':Exit->Act->World->Prop}(hq:∀ x a w,Q x a w->Q' x a w):∀ {n:Nat} {a:Act} {w:World},Code.roundsIn F m P c Q n a w->Code.roundsIn F m P c Q' n a w
 |0,_,_,h=>h
 |n+1,a,w,h=>by
  rw[roundsIn_succ] at h |-
  refine Go.wpIn_mono h fun x a w hx=>?_
  cases x with
  |normal=>exact za5 hq hx
  |_=>exact hq _ _ _ hx
def zjg(P:Program)(B:Nat)(W0:World)(run:Code->St->Option (Ex×St))(n:Nat):Prop:=
 ∀ c st e st',run (.loop c) st=some (e,st')->∀ (G:Gh) (a:Act) (w:World) (b:Option Nat),AR G st.env st.dl a->HR G B st.h w->zbg P B W0 G w->RN G st.rnd b->Code.roundsIn (fen b) 0 P c (zaF G B w e st') n a w
def zb4(run:Code->St->Option (Ex×St)):Prop:=∀ c st e st',run c st=some (e,st')->st'.rnd=st.rnd
theorem zfp{run:Code->St->Option (Ex×St)}(hrun:zb5 P B W0 run)(hrnd:zb4 run){n:Nat}(hloop:zjg P B W0 run n){c:Code}{st st':St}{e:Ex}(hc:(match run c st with|some (.normal,st')=>run (.loop c) st' | r=>r)=some (e,st'))
  {G:Gh} {a:Act} {w:World} {b:Option Nat} (ha:AR G st.env st.dl a) (hr:HR G B st.h w) (hg:zbg P B W0 G w) (hb:RN G st.rnd b):Code.roundsIn (fen b) 0 P c (zaF G B w e st') (n+1) a w:=by
 rw[roundsIn_succ]
 cases h1:run c st with
 |none=>rw[h1] at hc;cases hc
 |some p=>
  obtain⟨e1,st1⟩:=p
  rw[h1] at hc
  refine Go.wpIn_mono (hrun c st e1 st1 h1 G a w b ha hr hg hb) fun ex a1 w1 hp=>?_
  obtain⟨G1,S1,hx⟩:=hp
  cases e1 with
  |normal=>
   obtain⟨rfl,hA⟩:=hx
   exact za5 (fun _ _ _ h=>zaF.trans S1 h) (hloop c st1 e st' hc G1 a1 w1 b hA S1.hr (hg.step hr S1) (by rw[hrnd _ _ _ _ h1];exact hb.le S1.le))
  |ret=>cases hc;obtain⟨rfl,hA⟩:=hx;exact⟨G1,S1,rfl,hA⟩
  |exit id=>cases hc;obtain⟨rfl,hA⟩:=hx;exact⟨G1,S1,rfl,hA⟩
  |panic v=>cases hc;obtain⟨u,hu,rfl,hA⟩:=hx;exact⟨G1,S1,u,hu,rfl,hA⟩
theorem zkb{p:Option Code}{st st':St}{e:Ex}(h:zka p st=some (e,st')):st'=st:=by
 unfold zka at h
 split at h<;>cases h<;>rfl
theorem zaX{l:Nat}{env:Arr AV}{dl:List Dfd}{rnd:Option Nat}{r:Option CR}{e:Ex}{st':St}(h:wB l env dl rnd r=some (e,st')):st'.rnd=rnd:=by
 unfold wB at h
 split at h
 ·split at h
  ·split at h
   ·cases h
   ·rw[zkb h]
  ·cases h
 ·cases h;rfl
 ·cases h
theorem zj1{qs:FuncId->Bool}{run:Code->St->Option (Ex×St)}(hrun:zb4 run){call:Cal->List AV->za->Option CR}:zb4 (zX P qs run call):=by
 intro c st e st' hc
 have hof:∀ {o:Option OR},zjc st.rnd o=some (e,st')->st'.rnd=st.rnd:=by
  intro o ho
  unfold zjc at ho
  split at ho<;>cases ho<;>rfl
 cases c with
 |skip=>cases hc;rfl
 |label l=>cases hc;rfl
 |ret=>cases hc;rfl
 |exit id=>cases hc;rfl
 |region id ops draw=>cases draw<;>exact hof hc
 |seq x y=>
  simp only[zX] at hc
  cases h1:run x st with
  |none=>rw[h1] at hc;cases hc
  |some p=>
   obtain⟨e1,st1⟩:=p
   rw[h1] at hc
   have:=hrun _ _ _ _ h1
   cases e1 with
   |normal=>exact(hrun _ _ _ _ hc).trans this
   |_=>cases hc;exact this
 |cond c x y=>
  simp only[zX] at hc
  split at hc
  ·exact hrun _ _ _ _ hc
  ·exact hrun _ _ _ _ hc
  ·cases hc
 |block id c=>
  simp only[zX] at hc
  cases h1:run c st with
  |none=>rw[h1] at hc;cases hc
  |some p=>
   obtain⟨e1,st1⟩:=p
   rw[h1] at hc
   have:=hrun _ _ _ _ h1
   cases e1 with
   |exit id'=>
    simp only at hc
    split at hc<;>cases hc<;>exact this
   |_=>cases hc;exact this
 |loop c=>
  simp only[zX] at hc
  cases h1:run c st with
  |none=>rw[h1] at hc;cases hc
  |some p=>
   obtain⟨e1,st1⟩:=p
   rw[h1] at hc
   have:=hrun _ _ _ _ h1
   cases e1 with
   |normal=>exact(hrun _ _ _ _ hc).trans this
   |_=>cases hc;exact this
 |rangeFunc g ps asg body=>
  simp only[zX,zhQ] at hc
  split at hc
  ·split at hc
   ·split at hc
    ·rename_i hn;rw[zaX hc,hn]
    ·rename_i hn
     split at hc
     ·rw[zaX hc,hn]
     ·cases hc
   ·cases hc
  ·cases hc
 |_=>simp [zX] at hc
theorem zds{G G1:Gh}{h1:za}{w w1:World}{l:Nat}{env:Arr AV}{dl:List Dfd}{rnd b:Option Nat}{cr:CR}{e:Ex}{st':St}{rl:Ver}{a':Act}(hS:Step G G1 B h1 w w1)(hat:G1.at l 0=some rl)
  (he:wB l env dl rnd (some cr)=some (e,st')) (hA:AR G1 env dl a'):∀ en w2,zi9 G1 B w1 cr en w2->rangePost (fen b) 0 P rl.b (zaF G B w e st') a' en w2:=by
 intro en w2 hcr
 cases cr with
 |pan v h2=>
  obtain⟨G2,S2,u,hv,rfl⟩:=hcr
  cases he
  exact⟨G2,hS.trans S2,u,hv,rfl,hA.le S2.le⟩
 |ret v h2=>
  obtain⟨G2,S2,u,hv,rfl⟩:=hcr
  simp only[wB] at he
  split at he
  ·rename_i e2 ps asg body s p hl
   have hat2:=S2.le _ _ _ hat
   obtain⟨hg2,hlt2,L,q1,q2,q3,q4,q5,q6,q7⟩:=xB S2.hr hl hat2
   have hb:L.state≠.busy:=by
    intro hbb
    rw[hbb] at q2
    subst q2
    cases he
   have he':zka p ⟨env,h2.set l (.loop e2 ps asg body .exhausted p),dl,rnd⟩=some (e,st'):=by
    cases s<;>first|(cases he;done)|exact he
   have hT:=k9 S2.hr hl hat2 .exhausted p q1
   have hrun:=run_endLoop (P:=P) q1 hb
   have hpe:({ L with state:=.exhausted }:Loop)={ L with state:=.exhausted,pending:=p }:=by rw[<- q3]
   refine⟨L.pending,_,hrun,?_⟩
   rw[hpe]
   have hS3:=(hS.trans S2).trans hT
   have hA3:AR G2 env dl a':=hA.le S2.le
   rw[q3]
   unfold zka at he'
   split at he'
   ·cases he';exact⟨G2,hS3,rfl,hA3⟩
   ·cases he';exact wpIn_ret ⟨G2,hS3,rfl,hA3⟩
   ·cases he';exact wpIn_exit ⟨G2,hS3,rfl,hA3⟩
   ·cases he'
  ·cases he
theorem zaf{G:Gh}{vs:List Ver}:Gh.at (G++[vs]) G.length 0=vs[0]?:=by
 unfold Gh.at
 rw[List.getElem?_append_right (Nat.le_refl _)]
 simp
theorem zfz(hng:zja P){call:Cal->List AV->za->Option CR}(hcall:zbH P B W0 call){g:Operand}{ps:Array Tmp}{asg body:Code}{st st':St}{e:Ex}(he:zhQ P call g ps asg body st=some (e,st'))
  {G:Gh} {a:Act} {w:World} {b:Option Nat} (ha:AR G st.env st.dl a) (hr:HR G B st.h w) (hg:zbg P B W0 G w) (hb:RN G st.rnd b):(Code.rangeFunc g ps asg body).wpIn (fen b) 0 P (zaF G B w e st') a w:=by
 unfold zhQ at he
 split at he
 ·rename_i f first cap hgv
  split at he
  ·rename_i hbody
   have hE:=enters_of hng hbody
   have hV:=xe ha hr hg _ _ hgv
   generalize hu:a.eval g=u at hV
   cases hV with
   | @fn _ _ _ vf vc hvf hvc=>
    have hres:∀ (l:Nat) (w1:World),(resolve a.eval (rangeCall g l) 0).run P w1=.ok { target:=.fn (.func f) vc.toArray,args:=vf.toArray ++ #[Value.func (.yield l) #[] #[]] } w1:=by
     intro l w1
     have hcv:∀ v,a.eval (.const v)=v:=fun _=>rfl
     simp [resolve,hu,hcv,Deferred.ofValue]
    have hinv:∀ (l:Nat) (w1:World),(invoke (.fn (.func f) vc.toArray) (vf.toArray ++ #[Value.func (.yield l) #[] #[]])).run P w1=.ok (.enter f (vf++[Value.func (.yield l) #[] #[]]++vc).toArray) w1:=by
     intro l w1
     have:(vf.toArray ++ #[Value.func (.yield l) #[] #[]]++vc.toArray)=(vf++[Value.func (.yield l) #[] #[]]++vc).toArray:=by apply Array.ext';simp
     simp only[invoke]
     rw[this]
     exact hE _ _
    have fin:∀ {G1:Gh} {h1:za} {w1:World} {l:Nat} {rl:Ver} {dl:List Dfd} {mark:List Deferred} {rnd:Option Nat} {fnid:FuncId},Step G G1 B h1 w w1->G1.at l 0=some rl->MK G1 dl (mark++a.defers) ->
      wB l st.env dl rnd (call (.f f) (first++[.yld l]++cap) h1)=some (e,st') ->
      CallsIn (fen b) 0 P f (vf++[Value.func (.yield rl.b) #[] #[]]++vc).toArray w1 (rangePost (fen b) 0 P rl.b (zaF G B w e st') { a with defers:=mark++a.defers }):=by
     intro G1 h1 w1 l rl dl mark rnd fnid hS hat hmk hend
     cases hc:call (.f f) (first++[.yld l]++cap) h1 with
     |none=>rw[hc] at hend;cases hend
     |some cr=>
      rw[hc] at hend
      have hVL:VL G1 (first++[.yld l]++cap) (vf++[Value.func (.yield rl.b) #[] #[]]++vc):=((hvf.le hS.le).append (.cons (.yld hat) .nil)).append (hvc.le hS.le)
      have hpost:=zds (P:=P) (b:=b) (a':={ a with defers:=mark++a.defers }) hS hat hend ⟨hmk,ha.env.le hS.le⟩
      rcases hcall (.f f) _ h1 cr hc G1 _ w1 hVL hS.hr (hg.step hr hS) with⟨hC,_⟩|⟨v,h2,u2,w2,G2,_,hv,_⟩
      ·exact zaj (hC.mono hpost)
      ·rw[hE _ _] at hv;cases hv
    refine wpIn_rangeFunc fun fnid _=>?_
    split at he
    ·
     rename_i hn
     rw[hn] at hb
     obtain rfl:b=none:=hb
     have S1:Step G (G++[[⟨w.heap.size,0,0,0,0⟩]]) B (st.h++[Blk.dfr]) w (w.alloc (.deferred (some []))):=
      Step.push hr rfl (by simp) (fun k hk=>(xw.alloc [] w _).block k hk (by simp)) rfl rfl rfl
       (fun v r hv=>by
        cases v with
        |zero=>simp at hv;subst hv;exact⟨Nat.le_refl _,by simp⟩
        |succ v=>simp at hv) (.inr ⟨_,rfl,World.alloc_heap_new w _⟩)
     have S2:Step (G++[[⟨w.heap.size,0,0,0,0⟩]]) (G++[[⟨w.heap.size,0,0,0,0⟩]]++[[⟨w.heap.size+1,0,0,0,0⟩]]) B (st.h++[Blk.dfr]++[Blk.loop st.env ps asg body .ready none]) (w.alloc (.deferred (some [])))
       ((w.alloc (.deferred (some []))).alloc (.loop { state:=.ready,pending:=none,fn:=fnid,tmps:=a.tmps,params:=ps,assign:=asg,body,defers:=w.heap.size })):=
      Step.push S1.hr rfl (by simp) (fun k hk=>(xw.alloc [] (w.alloc (.deferred (some []))) _).block k hk (by simp)) rfl rfl rfl
       (fun v r hv=>by
        cases v with
        |zero=>simp at hv;subst hv;exact⟨by simp,by simp⟩
        |succ v=>simp at hv) (.inr ⟨_,rfl,_,by
         have:=World.alloc_heap_new (w.alloc (.deferred (some []))) (.loop { state:=.ready,pending:=none,fn:=fnid,tmps:=a.tmps,params:=ps,assign:=asg,body,defers:=w.heap.size })
         simpa using this,rfl,rfl,rfl,rfl,rfl,(ha.env.le S1.le).le (Gh.wz _ _)⟩)
     have hat1:Gh.at (G++[[⟨w.heap.size,0,0,0,0⟩]]++[[⟨w.heap.size+1,0,0,0,0⟩]]) st.h.length 0=some ⟨w.heap.size,0,0,0,0⟩:=by
      refine S2.le _ _ _ ?_
      rw[<- hr.len,zaf];rfl
     have hat2:Gh.at (G++[[⟨w.heap.size,0,0,0,0⟩]]++[[⟨w.heap.size+1,0,0,0,0⟩]]) (st.h.length+1) 0=some ⟨w.heap.size+1,0,0,0,0⟩:=by
      have:=zaf (G:=G++[[⟨w.heap.size,0,0,0,0⟩]]) (vs:=[⟨w.heap.size+1,0,0,0,0⟩])
      rw[List.length_append,hr.len] at this
      exact this
     exact⟨w.heap.size+1,[{ target:=.collected w.heap.size,args:=#[] }],_,_,_,f,_,_,run_enterLoop_outer fnid a.tmps ps asg body,hres _ _,fun f' _=>zaI _ f',hinv _ _,(fun e=>by cases e),
      fin (fnid:=fnid) (dl:=.mark st.h.length::st.dl) (S1.trans S2) hat2 ⟨_,_,hat1,rfl,ha.defers.le (S1.trans S2).le⟩ he⟩
    ·
     rename_i lo hn
     rw[hn] at hb
     obtain⟨rv,hv1,rfl⟩:=hb
     split at he
     ·rename_i e2 ps2 asg2 body2 s2 p2 hl
      obtain⟨_,_,L,q1,_⟩:=xB hr hl hv1
      have S1:Step G (G++[[⟨w.heap.size,0,0,0,0⟩]]) B (st.h++[Blk.loop st.env ps asg body .ready none]) w (w.alloc (.loop { state:=.ready,pending:=none,fn:=fnid,tmps:=a.tmps,params:=ps,assign:=asg,body,defers:=L.defers })):=
       Step.push hr rfl (by simp) (fun k hk=>(xw.alloc [] w _).block k hk (by simp)) rfl rfl rfl
        (fun v r hv=>by
         cases v with
         |zero=>simp at hv;subst hv;exact⟨Nat.le_refl _,by simp⟩
         |succ v=>simp at hv) (.inr ⟨_,rfl,_,World.alloc_heap_new w _,rfl,rfl,rfl,rfl,rfl,ha.env.le (Gh.wz _ _)⟩)
      have hat1:Gh.at (G++[[⟨w.heap.size,0,0,0,0⟩]]) st.h.length 0=some ⟨w.heap.size,0,0,0,0⟩:=by
       rw[<- hr.len,zaf];rfl
      exact⟨w.heap.size,[],_,_,_,f,_,_,run_enterLoop_inner q1 fnid a.tmps ps asg body,hres _ _,fun f' _=>zaI _ f',hinv _ _,(fun e=>by cases e),
       fin (fnid:=fnid) S1 hat1 (ha.defers.le S1.le) he⟩
     ·cases he
  ·cases he
 ·cases he
theorem zgN(hmo:P.follows .mixedOrders=true)(hng:zja P){qs:FuncId->Bool}{run:Code->St->Option (Ex×St)}{call:Cal->List AV->za->Option CR}(hrun:zb5 P B W0 run)(hrnd:zb4 run)(hcall:zbH P B W0 call)
  {n:Nat} (hqc:QC call qs) (hloop:zjg P B W0 run n):zb5 P B W0 (zX P qs run call):=by
 intro c st e st' hc G a w b ha hr hg hb
 cases c with
 |skip=>cases hc;exact wpIn_skip ⟨G,.refl hr,rfl,ha⟩
 |label l=>cases hc;exact wpIn_label ⟨G,.refl hr,rfl,ha⟩
 |ret=>cases hc;exact wpIn_ret ⟨G,.refl hr,rfl,ha⟩
 |exit id=>cases hc;exact wpIn_exit ⟨G,.refl hr,rfl,ha⟩
 |region id ops draw=>
  cases draw with
  |true=>
   simp only[zX] at hc
   cases hm:xU P (zfy P qs ops.toList) call ops.toList st.env st.h st.dl with
   |none=>rw[hm] at hc;cases hc
   |some r=>
    rw[hm] at hc
    obtain⟨env',h',rfl,hwp⟩:=zfu (Q:=zaF G B w e st') (bb:=b) (id:=id) hmo hcall (zl7 hqc) hm ha hr hg
    cases hc
    rw[Array.toArray_toList] at hwp
    exact hwp fun G' a' w' hS hA=>⟨G',hS,rfl,hA⟩
  |false=>
   simp only[zX] at hc
   cases hm:zeW P call ops st.rnd ops.toList st.env st.h st.dl with
   |none=>rw[hm] at hc;cases hc
   |some r=>
    rw[hm] at hc
    have hl:wpListIn (fen b) 0 P ops.toList.toArray (zaF G B w e st') ops.toList a w:=by
     rw[Array.toArray_toList]
     refine zbu hcall ha hr hg hb hm (fun env' h' mk' G' a' w' hq hS hA=>?_) (fun v env' h' mk' G' u a' w' hq hS hV hD=>?_)
     ·subst hq
      cases hc
      exact⟨G',hS,rfl,hA⟩
     ·subst hq
      cases hc
      exact⟨G',hS,u,hV,rfl,hD⟩
    have:=wpIn_region_lit (id:=id) hl
    rwa [Array.toArray_toList] at this
 |seq x y=>
  simp only[zX] at hc
  cases h1:run x st with
  |none=>rw[h1] at hc;cases hc
  |some p=>
   obtain⟨e1,st1⟩:=p
   rw[h1] at hc
   refine wpIn_seq (Go.wpIn_mono (hrun x st e1 st1 h1 G a w b ha hr hg hb) fun ex a1 w1 hp=>?_)
   obtain⟨G1,S1,hx⟩:=hp
   cases e1 with
   |normal=>
    obtain⟨rfl,hA⟩:=hx
    exact Go.wpIn_mono (hrun y st1 e st' hc G1 a1 w1 b hA S1.hr (hg.step hr S1) (by rw[hrnd _ _ _ _ h1];exact hb.le S1.le)) fun _ _ _ h=>zaF.trans S1 h
   |ret=>cases hc;obtain⟨rfl,hA⟩:=hx;exact⟨G1,S1,rfl,hA⟩
   |exit id=>cases hc;obtain⟨rfl,hA⟩:=hx;exact⟨G1,S1,rfl,hA⟩
   |panic v=>cases hc;obtain⟨u,hu,rfl,hA⟩:=hx;exact⟨G1,S1,u,hu,rfl,hA⟩
 |cond c x y=>
  simp only[zX] at hc
  split at hc
  ·rename_i hv
   exact wpIn_cond_true (zcA (xe ha hr hg _ _ hv)) (hrun x st e st' hc G a w b ha hr hg hb)
  ·rename_i hv
   exact wpIn_cond_false (zcA (xe ha hr hg _ _ hv)) (hrun y st e st' hc G a w b ha hr hg hb)
  ·cases hc
 |block id c=>
  simp only[zX] at hc
  cases h1:run c st with
  |none=>rw[h1] at hc;cases hc
  |some p=>
   obtain⟨e1,st1⟩:=p
   rw[h1] at hc
   refine wpIn_block (Go.wpIn_mono (hrun c st e1 st1 h1 G a w b ha hr hg hb) fun ex a1 w1 hp=>?_)
   obtain⟨G1,S1,hx⟩:=hp
   cases e1 with
   |normal=>cases hc;obtain⟨rfl,hA⟩:=hx;exact⟨G1,S1,rfl,hA⟩
   |ret=>cases hc;obtain⟨rfl,hA⟩:=hx;exact⟨G1,S1,rfl,hA⟩
   |exit id'=>
    obtain⟨rfl,hA⟩:=hx
    simp only at hc
    by_cases hid:id'=id
    ·rw[if_pos hid] at hc
     cases hc
     simp only[Exit.inBlock,if_pos hid]
     exact⟨G1,S1,rfl,hA⟩
    ·rw[if_neg hid] at hc
     cases hc
     simp only[Exit.inBlock,if_neg hid]
     exact⟨G1,S1,rfl,hA⟩
   |panic v=>cases hc;obtain⟨u,hu,rfl,hA⟩:=hx;exact⟨G1,S1,u,hu,rfl,hA⟩
 |loop c=>exact wpIn_loop_rounds (n+1) (zfp hrun hrnd hloop hc ha hr hg hb)
 |rangeFunc g ps asg body=>exact zfz hng hcall hc ha hr hg hb
 |_=>simp [zX] at hc
theorem xD{G:Gh}{env:Arr AV}{h:za}{a:Act}{w:World}(ha:VL G env.toL a.tmps.toList)(hr:HR G B h w):∀ {rs:List ResultVar} {vs:List AV},zfA P env h rs=some vs->∃ us,VL G vs us/\RV P (fun t=>a.tmps.getD t undef) w rs us
 | [],vs,he=>by cases he;exact⟨[],.nil,rfl⟩
 |.tmp t::l,vs,he=>by
  unfold zfA at he
  split at he
  ·rename_i v vs' h1 h2
   cases he
   obtain⟨us,h3,h4⟩:=xD ha hr h2
   obtain⟨u,h5,h6⟩:=ha.get (Arr.zS.trans h1)
   rw[Array.getElem?_toList] at h5
   exact⟨u::us,.cons h6 h3,by simp [Array.getD_eq_getD_getElem?,h5],h4⟩
  ·cases he
 |.cell t T::l,vs,he=>by
  unfold zfA at he
  split at he
  ·rename_i loc off ver lim vs' h1 h2
   obtain⟨us,h3,h4⟩:=xD ha hr h2
   obtain⟨u,h5,h6⟩:=ha.get (Arr.zS.trans h1)
   rw[Array.getElem?_toList] at h5
   cases h6 with
   | @ptr _ _ _ _ r g1 g2 g3=>
    split at he
    ·rename_i n hag hsz
     split at he
     ·rename_i cs hrd
      cases he
      obtain⟨xs,o1,o2,o3⟩:=zD hr hrd g1 g2 g3
      refine⟨_::us,.cons (.agg o1) h3,⟨_,by simp [Array.getD_eq_getD_getElem?,h5];rfl,?_⟩,h4⟩
      have:=run_loadCells_list (P:=P) w ⟨r.b,off+r.sh-r.lo,none⟩ xs (fun j v hv=>by rw[Addr.add_lit];exact o3 j v hv)
      rw[o2] at this
      simp [loadVar,kd hag,run_sizeOf hsz,this]
     ·cases he
    ·rename_i hag
     split at he
     ·rename_i v hrd
      cases he
      obtain⟨xs,o1,o2,o3⟩:=zD hr hrd g1 g2 g3
      obtain⟨y,rfl⟩:=List.length_eq_one_iff.1 o2
      cases o1 with
      |cons o1 _=>
       refine⟨_::us,.cons o1 h3,⟨_,by simp [Array.getD_eq_getD_getElem?,h5];rfl,?_⟩,h4⟩
       have h4:=o3 0 y rfl
       rw[Nat.add_zero] at h4
       simp [loadVar,kd hag,h4]
     ·cases he
    ·cases he
  ·cases he
theorem zkn{G:Gh}{vs:List AV}{us:List Value}(h:VL G vs us):V G (zmi vs) (oneOf us):=by
 cases h with
 |nil=>exact .tup .nil
 |cons h t=>
  cases t with
  |nil=>exact h
  |cons h2 t=>exact .tup (.cons h (.cons h2 t))
theorem kR(G:Gh):∀ n,VL G (List.replicate n AV.undef) (List.replicate n Go.undef)
 |0=>.nil
 |n+1=>.cons (.tup .nil) (kR G n)
theorem zfE{run:Code->St->Option (Ex×St)}(hrun:zb5 P B W0 run){fn:Func}{args:List AV}{h:za}{e:Ex}{st:St}(hc:mstart run fn args h=some (e,st)){G:Gh}{us:List Value}{w:World}(hx:VL G args us)(hr:HR G B h w)(hg:zbg P B W0 G w):
  ∃ c,fn.body=some c/\c.wpIn Fence.wide 0 P (zaF G B w e st) { tmps:=us.toArray++Array.replicate (fn.ntmps-us.toArray.size) Go.undef,defers:=[] } w:=by
 unfold mstart at hc
 split at hc
 ·rename_i c hb
  split at hc
  ·refine⟨c,hb,?_⟩
   have hA:AR G (Arr.of (args++List.replicate (fn.ntmps-args.length) .undef)) [] { tmps:=us.toArray++Array.replicate (fn.ntmps-us.toArray.size) Go.undef,defers:=[] }:=by
    refine⟨rfl,?_⟩
    rw[Arr.zlp]
    simp only[Array.toList_append,Array.toList_replicate,List.size_toArray,hx.length]
    exact hx.append (kR G _)
   exact hrun c _ e st hc G _ w none hA hr hg rfl
  ·cases hc
 ·cases hc
def MR(G:Gh):Pn->FrameMode->Prop
 |.no,m=>m=.returning
 |.up v,m=>∃ u,V G v u/\m=.panicking [{ v:=u,recovered:=false }]
 |.re v,m=>∃ u,V G v u/\m=.panicking [{ v:=u,recovered:=true }]
theorem MR.le{G G':Gh}{pn:Pn}{m:FrameMode}(h:MR G pn m)(hl:G.le G'):MR G' pn m:=by
 cases pn with
 |no=>exact h
 |up v=>obtain⟨u,h1,h2⟩:=h;exact⟨u,h1.le hl,h2⟩
 |re v=>obtain⟨u,h1,h2⟩:=h;exact⟨u,h1.le hl,h2⟩
theorem MR.settle{G:Gh}{pn:Pn}{m:FrameMode}(h:MR G pn m):MR G pn.settle (Go.settle m):=by
 cases pn with
 |no=>obtain rfl:m=.returning:=h;rfl
 |up v=>obtain⟨u,h1,rfl⟩:=h;exact⟨u,h1,rfl⟩
 |re v=>obtain⟨u,h1,rfl⟩:=h;rfl
theorem MR.run{G:Gh}{pn:Pn}{m:FrameMode}(h:MR G pn m):m≠.run:=by
 cases pn with
 |no=>obtain rfl:m=.returning:=h;simp
 |up v=>obtain⟨u,h1,rfl⟩:=h;simp
 |re v=>obtain⟨u,h1,rfl⟩:=h;simp
theorem j8{F:Fence}{n:Nat}{c:Code}{Q Q':Exit->Act->List Frame->World->Prop}(hq:∀ e a cs w,Q e a cs w->Q' e a cs w){a:Act}{cs:List Frame}{w:World}(h:c.wpSIn F n P Q a cs w):c.wpSIn F n P Q' a cs w:=by
 intro b k h1 h2 h3 h4
 obtain⟨e,a',cs',w',h5,h6,h7⟩:=h b k h1 h2 h3 h4
 exact⟨e,a',cs',w',h5,hq _ _ _ _ h6,h7⟩
def znA(G:Gh)(B:Nat)(w:World)(e:Ex)(st:St)(pn:Pn)(c0:Frame)(cs:List Frame)(x:Exit)(a:Act)(cs':List Frame)(w':World):Prop:=
 ∃ G' u',Step G G' B st.h w w'/\zrd G' e st.env st.dl x a/\MR G' pn u'/\cs'={ c0 with mode:=u' }::cs
theorem zdg{pn:Pn}{o:Option (Ex×St)}{e:Ex}{st:St}{pn':Pn}(h:zb1 pn o=some (e,st,pn')):o=some (e,st)/\pn'=pn:=by
 unfold zb1 at h
 split at h
 ·cases h;exact⟨rfl,rfl⟩
 ·cases h
theorem zj5{run:Code->St->Option (Ex×St)}(hrun:zb5 P B W0 run){c:Code}{st st':St}{pn pn':Pn}{e:Ex}(hc:zb1 pn (run c st)=some (e,st',pn')){G:Gh}{a:Act}{w:World}(c0:Frame)(cs:List Frame){u:FrameMode}
  (ha:AR G st.env st.dl a) (hr:HR G B st.h w) (hg:zbg P B W0 G w) (hn:st.rnd=none) (hm:MR G pn u):c.wpSIn Fence.wide 0 P (znA G B w e st' pn' c0 cs) a ({ c0 with mode:=u }::cs) w:=by
 obtain⟨h1,rfl⟩:=zdg hc
 refine wpSIn_of_wpIn rfl (Go.wpIn_mono (hrun c st e st' h1 G a w none ha hr hg (by rw[hn];rfl)) fun x a' w' hp=>?_)
 obtain⟨G',hS,hx⟩:=hp
 exact⟨G',u,hS,hx,hm.le hS.le,rfl⟩
theorem zfb{ρ:Operand->Value}{o:Oper}(h:isRec o=true){w:World}:(execOp ρ o).run P w=.ok .recover w/\∀ y,Region.wanted o y=true:=by
 obtain⟨dst,op,ty,pos,after,guard⟩:=o
 unfold isRec at h
 split at h
 ·rename_i c h1 h2
  split at h
  ·rename_i h3
   simp only at h1 h2
   subst h1;subst h2
   obtain⟨callee,args,ats⟩:=c
   simp only at h3
   subst h3
   exact⟨by rw[zg];rfl,fun y=>rfl⟩
  ·cases h
 ·cases h
theorem zn9{run:Code->St->Option (Ex×St)}(hrnd:zb4 run):∀ {c:Code} {st st':St} {pn pn':Pn} {e:Ex},mdc run c st pn=some (e,st',pn')->st'.rnd=st.rnd:=by
 have plain:∀ {c:Code} {st st':St} {pn pn':Pn} {e:Ex},zb1 pn (run c st)=some (e,st',pn')->st'.rnd=st.rnd:=fun h=>hrnd _ _ _ _ (zdg h).1
 intro c
 induction c with
 |seq x y ihx ihy=>
  intro st st' pn pn' e hc
  simp only[mdc] at hc
  cases h1:mdc run x st pn with
  |none=>rw[h1] at hc;cases hc
  |some p=>
   obtain⟨e1,st1,pn1⟩:=p
   rw[h1] at hc
   have:=ihx h1
   cases e1 with
   |normal=>exact(ihy hc).trans this
   |_=>cases hc;exact this
 |region id ops dr=>
  intro st st' pn pn' e hc
  cases dr with
  |true=>exact plain hc
  |false=>
   simp only[mdc] at hc
   split at hc
   ·split at hc
    ·split at hc
     ·cases hc;rfl
     ·cases hc
    ·exact plain hc
   ·exact plain hc
 |_=>exact plain
theorem zj6{run:Code->St->Option (Ex×St)}(hrun:zb5 P B W0 run)(hrnd:zb4 run):∀ {c:Code} {st st':St} {pn pn':Pn} {e:Ex},mdc run c st pn=some (e,st',pn')->∀ {G:Gh} {a:Act} {w:World} (c0:Frame) (cs:List Frame) {u:FrameMode},
  AR G st.env st.dl a->HR G B st.h w->zbg P B W0 G w->st.rnd=none->MR G pn u->st'.rnd=none/\c.wpSIn Fence.wide 0 P (znA G B w e st' pn' c0 cs) a ({ c0 with mode:=u }::cs) w:=by
 have plain:∀ {c:Code} {st st':St} {pn pn':Pn} {e:Ex},zb1 pn (run c st)=some (e,st',pn')->∀ {G:Gh} {a:Act} {w:World} (c0:Frame) (cs:List Frame) {u:FrameMode},
   AR G st.env st.dl a->HR G B st.h w->zbg P B W0 G w->st.rnd=none->MR G pn u->st'.rnd=none/\c.wpSIn Fence.wide 0 P (znA G B w e st' pn' c0 cs) a ({ c0 with mode:=u }::cs) w:=by
  intro c st st' pn pn' e hc G a w c0 cs u ha hr hg hn hm
  exact⟨(hrnd _ _ _ _ (zdg hc).1).trans hn,zj5 hrun hc c0 cs ha hr hg hn hm⟩
 intro c
 induction c with
 |seq x y ihx ihy=>
  intro st st' pn pn' e hc G a w c0 cs u ha hr hg hn hm
  simp only[mdc] at hc
  cases h1:mdc run x st pn with
  |none=>rw[h1] at hc;cases hc
  |some p=>
   obtain⟨e1,st1,pn1⟩:=p
   rw[h1] at hc
   obtain⟨hn1,hw⟩:=ihx h1 c0 cs ha hr hg hn hm
   cases e1 with
   |normal=>
    simp only at hc
    refine⟨?_,wpSIn_seq (j8 (fun x1 a1 cs1 w1 hp=>?_) hw)⟩
    ·exact(zn9 hrnd hc).trans hn1
    ·obtain⟨G1,u1,S1,⟨rfl,hA⟩,hm1,rfl⟩:=hp
     exact j8 (fun x2 a2 cs2 w2 ⟨G2,u2,S2,hx2,hm2,he2⟩=>⟨G2,u2,S1.trans S2,hx2,hm2,he2⟩) (ihy hc c0 cs hA S1.hr (hg.step hr S1) hn1 hm1).2
   |ret=>cases hc;exact⟨hn1,wpSIn_seq (j8 (fun x1 a1 cs1 w1 hp=>by obtain⟨G1,u1,S1,⟨rfl,hA⟩,hm1,rfl⟩:=hp;exact⟨G1,u1,S1,⟨rfl,hA⟩,hm1,rfl⟩) hw)⟩
   |exit id=>cases hc;exact⟨hn1,wpSIn_seq (j8 (fun x1 a1 cs1 w1 hp=>by obtain⟨G1,u1,S1,⟨rfl,hA⟩,hm1,rfl⟩:=hp;exact⟨G1,u1,S1,⟨rfl,hA⟩,hm1,rfl⟩) hw)⟩
   |panic v=>cases hc;exact⟨hn1,wpSIn_seq (j8 (fun x1 a1 cs1 w1 hp=>by obtain⟨G1,u1,S1,⟨u',hu',rfl,hA⟩,hm1,rfl⟩:=hp;exact⟨G1,u1,S1,⟨u',hu',rfl,hA⟩,hm1,rfl⟩) hw)⟩
 |region id ops dr=>
  intro st st' pn pn' e hc G a w c0 cs u ha hr hg hn hm
  cases dr with
  |true=>exact plain hc c0 cs ha hr hg hn hm
  |false=>
   simp only[mdc] at hc
   split at hc
   ·rename_i o hops
    cases hrec:isRec o with
    |false=>rw[hrec] at hc;exact plain hc c0 cs ha hr hg hn hm
    |true=>
     rw[hrec] at hc
     simp only at hc
     split at hc
     ·rename_i env' hset
      cases hc
      refine⟨hn,wpSIn_region ?_⟩
      obtain⟨hrun',hw'⟩:=zfb (P:=P) (ρ:=a.eval) (w:=w) hrec
      have hops':ops=#[o]:=by apply Array.ext';exact hops
      subst hops'
      show wpOpsSIn Fence.wide 0 P #[o] _ [0] a _ w
      unfold wpOpsSIn
      simp only[List.getElem?_toArray,List.getElem?_cons_zero]
      refine⟨fun f _=>trivial,?_⟩
      rw[if_pos (hw' _),hrun']
      simp only
      cases pn with
      |no=>
       obtain rfl:u=.returning:=hm
       simp only[recoverD]
       unfold wpOpsSIn
       exact⟨G,.returning,.refl hr,⟨rfl,jC ha hset .xQ⟩,rfl,rfl⟩
      |up v=>
       obtain⟨uv,h1,rfl⟩:=hm
       simp only[recoverD]
       unfold wpOpsSIn
       exact⟨G,_,.refl hr,⟨rfl,jC ha hset h1⟩,⟨uv,h1,rfl⟩,rfl⟩
      |re v=>
       obtain⟨uv,h1,rfl⟩:=hm
       simp only[recoverD]
       unfold wpOpsSIn
       exact⟨G,_,.refl hr,⟨rfl,jC ha hset .xQ⟩,⟨uv,h1,rfl⟩,rfl⟩
     ·cases hc
   ·exact plain hc c0 cs ha hr hg hn hm
 |_=>exact plain
theorem zft{run:Code->St->Option (Ex×St)}(hng:zja P)(hrun:zb5 P B W0 run)(hrnd:zb4 run){f:FuncId}{args:List AV}{h h':za}{pn pn':Pn}(hc:w7 P run f args h pn=some (h',pn')){G:Gh}{us:List Value}{w:World}(hx:VL G args us)(hr:HR G B h w)(hg:zbg P B W0 G w){u:FrameMode}(hm:MR G pn u):
  Enters P f/\CallsDIn Fence.wide 0 P f us.toArray u w fun e u' w'=>(∃ v,e=.returned v)/\∃ G',Step G G' B h' w w'/\MR G' pn' u':=by
 unfold w7 at hc
 split at hc
 ·rename_i fn hf
  split at hc
  ·rename_i c hb
   split at hc
   ·cases h1:mdc run c ⟨Arr.of (args++List.replicate (fn.ntmps-args.length) .undef),h,[],none⟩ pn with
    |none=>rw[h1] at hc;cases hc
    |some p=>
     obtain⟨e1,st1,pn1⟩:=p
     rw[h1] at hc
     have hA:AR G (Arr.of (args++List.replicate (fn.ntmps-args.length) .undef)) [] { tmps:=us.toArray++Array.replicate (fn.ntmps-us.toArray.size) Go.undef,defers:=[] }:=by
      refine⟨rfl,?_⟩
      rw[Arr.zlp]
      simp only[Array.toList_append,Array.toList_replicate,List.size_toArray,hx.length]
      exact hx.append (kR G _)
     refine⟨Enters.mk hf (hng f fn hf) (by rw[hb];rfl),callsDIn_of_wpSIn hf hb trivial fun c0 cs hu=>?_⟩
     subst hu
     refine j8 (fun x a1 cs1 w1 hp=>?_) (zj6 hrun hrnd h1 c0 cs hA hr hg rfl hm).2
     obtain⟨G1,u1,S1,hx1,hm1,rfl⟩:=hp
     have fin:∀ {vs:List AV},AR G1 st1.env st1.dl a1->st1.dl=[]->zfA P st1.env st1.h fn.results.toList=some vs->st1.h=h'->pn1=pn' ->
       a1.defers=[]/\∃ u',({ c0 with mode:=u1 }:Frame)::cs={ c0 with mode:=u' }::cs/\∃ v,(results fn a1.tmps).run P w1=.ok v w1/\(∃ v',Ending.returned v=.returned v')/\∃ G',Step G G' B h' w w1/\MR G' pn' u':=by
      intro vs hA hd hmr hh hpn
      have hdf:=hA.defers
      rw[hd] at hdf
      obtain⟨us',h3,h4⟩:=xD hA.env S1.hr hmr
      exact⟨hdf,u1,rfl,oneOf us',za6 fn fn.results.toList a1.tmps (by simp) us' h4,⟨_,rfl⟩,G1,hh ▸ S1,hpn ▸ hm1⟩
     cases e1 with
     |normal=>
      obtain⟨rfl,hA⟩:=hx1
      simp only at hc
      split at hc
      ·rename_i vs hd hmr;cases hc;exact fin hA hd hmr rfl rfl
      ·cases hc
     |ret=>
      obtain⟨rfl,hA⟩:=hx1
      simp only at hc
      split at hc
      ·rename_i vs hd hmr;cases hc;exact fin hA hd hmr rfl rfl
      ·cases hc
     |_=>cases hc
   ·cases hc
  ·cases hc
 ·cases hc
theorem wM{run:Code->St->Option (Ex×St)}(hng:zja P)(hrun:zb5 P B W0 run)(hrnd:zb4 run){fn:Func}{tmps:Array Value}{R:Ending->World->Prop}{h':za}{pn':Pn}:∀ {dl:List Dfd} {ds:List Deferred} {G:Gh} {h:za} {w:World} {pn:Pn} {u:FrameMode},MK G dl ds->HR G B h w->zbg P B W0 G w->MR G pn u ->
  mleave (w7 P run) dl h pn=some (h',pn')->(∀ G' w' u',Step G G' B h' w w'->MR G' pn' u'->LeavesIn Fence.wide 0 P fn tmps R [] u' w')->LeavesInM Fence.wide 0 P fn tmps R ds u w
 | [],ds,G,h,w,pn,u,hm,hr,hg,hu,hl,hk=>by
  cases hl
  have:ds=[]:=hm
  subst this
  exact hk G w u (.refl hr) hu
 |.mark loc::dl,ds,G,h,w,pn,u,hm,hr,hg,hu,hl,hk=>by
  obtain⟨r,ds',hat,rfl,hm'⟩:=hm
  unfold mleave at hl
  split at hl
  ·rename_i hb
   obtain⟨b,vs,hb',hgv,hv,hR⟩:=hr.get hat
   rw[hb] at hb';cases hb'
   rcases hR with rfl|⟨r0,rfl,q⟩
   ·simp at hv
   ·simp at hv;subst hv
    have hT:Step G G B (h.set loc .gone) w (w.putObj r0.b (.deferred none)):=Step.turn hr hb hgv rfl rfl trivial
    exact⟨hu.run,.inl ⟨r0.b,_,rfl,run_takeDeferred q,wM hng hrun hrnd hm' hT.hr (hg.step hr hT) hu hl fun G' w' u' hS=>hk G' w' u' (hT.trans hS)⟩⟩
  ·cases hl
 |.call f args cap::dl,ds,G,h,w,pn,u,hm,hr,hg,hu,hl,hk=>by
  obtain⟨us,vc,ds',h1,h2,rfl,hm'⟩:=hm
  unfold mleave at hl
  cases hc:w7 P run f (args++cap) h pn with
  |none=>rw[hc] at hl;cases hl
  |some p=>
   obtain⟨h2',pn2⟩:=p
   rw[hc] at hl
   obtain⟨hE,hD⟩:=zft hng hrun hrnd hc (h1.append h2) hr hg hu
   refine⟨hu.run,.inr ⟨(fun e=>by cases e),.func f,vc.toArray,f,(us++vc).toArray,rfl,?_,fun g _=>trivial,?_⟩⟩
   ·simp only[invoke]
    rw[show us.toArray++vc.toArray=(us++vc).toArray from by apply Array.ext';simp]
    exact hE _ _
   ·refine⟨hD.1,fun c cs hcu hroom=>?_⟩
    obtain⟨e,u',w',fr,⟨⟨v,rfl⟩,G',hS,hu'⟩,hrest⟩:=hD.2 c cs hcu hroom
    refine⟨.returned v,u',w',fr,?_,hrest⟩
    show LeavesInM Fence.wide 0 P fn tmps R ds' (settle u') w'
    exact wM hng hrun hrnd (hm'.le hS.le) hS.hr (hg.step hr hS) hu'.settle hl fun G2 w2 u2 hS2=>hk G2 w2 u2 (hS.trans hS2)
theorem zas{run:Code->St->Option (Ex×St)}(hng:zja P)(hrun:zb5 P B W0 run)(hrnd:zb4 run){f:FuncId}{args:List AV}{h:za}{r:CR}(hc:zcb P run f args h=some r){G:Gh}{us:List Value}{w:World}(hx:VL G args us)(hr:HR G B h w)(hg:zbg P B W0 G w):
  Calls P f us.toArray w (zi9 G B w r)/\Enters P f:=by
 unfold zcb at hc
 split at hc
 ·rename_i fn hf
  cases h1:mstart run fn args h with
  |none=>rw[h1] at hc;cases hc
  |some p=>
   obtain⟨e1,st1⟩:=p
   rw[h1] at hc
   obtain⟨c,hb,hwp⟩:=zfE hrun h1 hx hr hg
   refine⟨callsIn_wide.1 (callsIn_of_wp_marks (n:=0) hf hb trivial (Go.wpIn_mono hwp fun ex a1 w1 hp=>?_)),Enters.mk hf (hng f fn hf) (by rw[hb];rfl)⟩
   obtain⟨G1,S1,hx1⟩:=hp
   have fin:∀ {pn:Pn} {u:FrameMode},AR G1 st1.env st1.dl a1->MR G1 pn u->zix P fn st1.env (mleave (w7 P run) st1.dl st1.h pn)=some r->LeavesInM Fence.wide 0 P fn a1.tmps (zi9 G B w r) a1.defers u w1:=by
    intro pn u hA hu hm
    unfold zix at hm
    split at hm
    ·rename_i h2 hl
     split at hm
     ·rename_i vs hvs
      cases hm
      refine wM hng hrun hrnd hA.defers S1.hr (hg.step hr S1) hu hl fun G' w' u' hS hu'=>?_
      obtain rfl:u'=.returning:=hu'
      obtain⟨us',h3,h4⟩:=xD (hA.env.le hS.le) hS.hr hvs
      exact⟨oneOf us',za6 fn fn.results.toList a1.tmps (by simp) us' h4,G',S1.trans hS,_,zkn h3,rfl⟩
     ·cases hm
    ·rename_i h2 v hl
     cases hm
     refine wM hng hrun hrnd hA.defers S1.hr (hg.step hr S1) hu hl fun G' w' u' hS hu'=>?_
     obtain⟨uv,h3,rfl⟩:=hu'
     exact⟨G',S1.trans hS,uv,h3,rfl⟩
    ·cases hm
   cases e1 with
   |normal=>obtain⟨rfl,hA⟩:=hx1;exact fin (pn:=.no) hA rfl hc
   |ret=>obtain⟨rfl,hA⟩:=hx1;exact fin (pn:=.no) hA rfl hc
   |exit id=>cases hc
   |panic v=>
    obtain⟨u,hu,rfl,hA⟩:=hx1
    exact fin (pn:=.up v) hA ⟨u,hu,rfl⟩ hc
 ·cases hc
theorem zo5{G:Gh}{e:Arr AV}{us:List Value}(h:VL G e.toL us){v:AV}{u:Value}(hv:V G v u)(t:Nat):VL G (e.set t v).toL (us.set t u):=by
 have hl:=h.length
 rw[Arr.qz] at hl
 refine VL.za2 (by rw[Arr.qz,Arr.length_set,List.length_set];exact hl) fun i x y hx hy=>?_
 rw[Arr.zS,Arr.zw] at hx
 rw[List.getElem?_set] at hy
 split at hx
 ·rename_i hti
  rw[if_pos hti] at hy
  split at hx
  ·rename_i hlt
   cases hx
   rw[if_pos (by omega)] at hy
   cases hy;exact hv
  ·cases hx
 ·rename_i hti
  rw[if_neg hti] at hy
  obtain⟨y',h1,h2⟩:=h.get (Arr.zS.trans hx)
  rw[h1] at hy;cases hy;exact h2
theorem zjh{G:Gh}:∀ {ps:List Tmp} {args:List AV} {us:List Value} {e:Arr AV} {ts:Array Value},VL G args us->VL G e.toL ts.toList ->
  VL G ((ps.zip args).foldl (fun e p=>e.set p.1 p.2) e).toL ((ps.zip us).foldl (fun tmps p=>tmps.setIfInBounds p.1 p.2) ts).toList
 | [],args,us,e,ts,_,h=>by simpa using h
 |p::ps,[],us,e,ts,hx,h=>by cases hx;simpa using h
 |p::ps,a::args,us,e,ts,hx,h=>by
  cases hx with
  |cons h1 h2=>
   simp only[List.zip_cons_cons,List.foldl_cons]
   refine zjh h2 ?_
   rw[Array.toList_setIfInBounds]
   exact zo5 h h1 p
theorem zfC{run:Code->St->Option (Ex×St)}(hrun:zb5 P B W0 run)(hrnd:zb4 run){loc:Nat}{args:List AV}{h:za}{r:CR}(hc:zhR run loc args h=some r):zmY P B W0 loc args h r:=by
 intro G us w rv hx hr hg hat
 unfold zhR at hc
 split at hc
 ·rename_i env ps asg body s p hl
  split at hc
  ·rename_i hlen
   obtain⟨_,_,L,q1,q2,q3,q4,q5,q6,q7⟩:=xB hr hl hat
   refine⟨L,q1,by rw[hx.length,hlen,q4],roundIn_of_wpIn (F:=Fence.wide) trivial ?_⟩
   cases h1:run asg ⟨(ps.toList.zip args).foldl (fun e p=>e.set p.1 p.2) env,h,[],some loc⟩ with
   |none=>rw[h1] at hc;cases hc
   |some pr=>
    obtain⟨e1,st1⟩:=pr
    rw[h1] at hc
    cases e1 with
    |normal=>
     simp only at hc
     have hA:AR G ((ps.toList.zip args).foldl (fun e p=>e.set p.1 p.2) env) [] { tmps:=(L.params.zip us.toArray).foldl (fun tmps (t,a)=>tmps.setIfInBounds t a) L.tmps,defers:=[] }:=by
      refine⟨rfl,?_⟩
      have:=zjh (ps:=ps.toList) hx q7
      rw[<- q4] at this |-
      rw[<- Array.foldl_toList,Array.toList_zip]
      exact this
     rw[q5,q6]
     refine Go.wpIn_mono (hrun asg _ _ st1 h1 G _ w (some rv.b) hA hr hg ⟨rv,hat,rfl⟩) fun ex a1 w1 hp=>?_
     obtain⟨G1,S1,rfl,hA1⟩:=hp
     unfold zn7 at hc
     split at hc
     ·rename_i e2 p2 a2 b2 pd hl2
      have hat1:=S1.le _ _ _ hat
      obtain⟨_,_,L2,k1,k2,k3,k4,k5,k6,k7⟩:=xB S1.hr hl2 hat1
      have hT:=k9 S1.hr hl2 hat1 .busy pd k1
      have hpe:({ L2 with state:=.busy }:Loop)={ L2 with state:=.busy,pending:=pd }:=by rw[<- k3]
      refine⟨_,run_beginRound k1 k2,?_⟩
      rw[hpe]
      cases h2:run body ⟨st1.env,st1.h.set loc (.loop e2 p2 a2 b2 .busy pd),st1.dl,some loc⟩ with
      |none=>rw[h2] at hc;cases hc
      |some pr2=>
       obtain⟨e3,st2⟩:=pr2
       rw[h2] at hc
       simp only at hc
       have hS2:=S1.trans hT
       refine Go.wpIn_mono (hrun body _ e3 st2 h2 G1 a1 _ (some rv.b) hA1 hT.hr (hg.step hr hS2) ⟨rv,hat1,rfl⟩) fun ex a2' w2 hp2=>?_
       obtain⟨G2,S3,hx3⟩:=hp2
       have hS4:=hS2.trans S3
       unfold zcW at hc
       split at hc
       ·rename_i e4 p4 a4 b4 s4 pd4 hl4
        have hat2:=S3.le _ _ _ hat1
        obtain⟨_,_,L3,m1,_⟩:=xB S3.hr hl4 hat2
        cases e3 with
        |normal=>
         obtain⟨rfl,_⟩:=hx3
         cases hc
         exact⟨_,_,run_endRound none m1,G2,hS4.trans (k9 S3.hr hl4 hat2 .ready none m1),_,.bool true,rfl⟩
        |ret=>
         obtain⟨rfl,_⟩:=hx3
         cases hc
         exact⟨_,_,run_endRound (some .ret) m1,G2,hS4.trans (k9 S3.hr hl4 hat2 .done (some .ret) m1),_,.bool false,rfl⟩
        |exit id=>
         obtain⟨rfl,_⟩:=hx3
         cases hc
         exact⟨_,_,run_endRound (some (.exit id)) m1,G2,hS4.trans (k9 S3.hr hl4 hat2 .done (some (.exit id)) m1),_,.bool false,rfl⟩
        |panic v=>cases hc
       ·cases hc
     ·cases hc
    |_=>cases hc
  ·cases hc
 ·cases hc
theorem zgM{hk:qc}{run:Code->St->Option (Ex×St)}(hng:zja P)(hh:zcz P B W0 hk)(hrun:zb5 P B W0 run)(hrnd:zb4 run):zbH P B W0 (qy P hk run):=by
 intro c args h r hc
 cases c with
 |f f=>
  simp only[qy] at hc
  show zb2 P B W0 f args h r
  split at hc
  ·rename_i g hg;exact hh f g hg args h r hc
  ·intro G us w hx hr hg;exact .inl (zas hng hrun hrnd hc hx hr hg)
 |y loc=>exact zfC hrun hrnd hc
theorem ka(hmo:P.follows .mixedOrders=true){hk:qc}(hng:zja P)(hh:zcz P B W0 hk):∀ n,zb5 P B W0 (qQ P hk n)/\zjg P B W0 (qQ P hk n) n/\zb4 (qQ P hk n)
 |0=>⟨(fun _ _ _ _ h=>by cases h),(fun _ _ _ _ h=>by cases h),(fun _ _ _ _ h=>by cases h)⟩
 |n+1=>by
  obtain⟨h1,h2,h4⟩:=ka hmo hng hh n
  have h3:=zgN hmo hng h1 h4 (zgM hng hh h1 h4) (zfO 4 n) h2
  exact⟨h3,fun c st e st' hc G a w b ha hr hg hb=>zfp h1 h4 h2 hc ha hr hg hb,zj1 h4⟩
theorem zep(hmo:P.follows .mixedOrders=true){hk:qc}(hng:zja P)(hh:zcz P B W0 hk){n f:Nat}{args:List AV}{h:za}{r:CR}(hc:zcb P (qQ P hk n) f args h=some r){G:Gh}{us:List Value}{w:World}(hx:VL G args us)(hr:HR G B h w)(hg:zbg P B W0 G w):
  Calls P f us.toArray w (zi9 G B w r):=(zas hng (ka hmo hng hh n).1 (ka hmo hng hh n).2.2 hc hx hr hg).1
end
inductive XK where
 |same|makeNoZero (t e:TypeId)|indexByte|znD (k:IntKind)|zjl|zqs (k:IntKind)|zo6 (k:IntKind)|index (g:Nat)|count|zl0|marked
def zbQ(h:za):AV->Option (List UInt8)
 |.str l=>some l
 |.qj=>some []
 |.sl loc off len 1 ver _=>match rd h loc off ver (off+len) len with
  |some cs=>wH cs
  |none=>none
 |_=>none
def kX(c:UInt8):List UInt8->Nat->Int
 | [],_=>-1
 |x::l,i=>if x==c then i else kX c l (i+1)
def idxOf(a b:List UInt8):Int:=match(List.range (a.length+1-b.length)).find? fun i=>(a.drop i).take b.length==b with
 |some i=>i
 |none=>-1
def mx(k:XK)(args:List AV)(h:za):Option CR:=
 match k,args with
 |.same,[x]=>some (.ret x h)
 |.makeNoZero _ e,[.int .i64 n]=>if 0<=n/\n<549755813888 then some (.ret (.sl h.length 0 n.toNat 1 0 false) (w9 h (List.replicate n.toNat .any) e)) else none
 |.indexByte,[b,.int .u8 c]=>match zbQ h b with
  |some l=>some (.ret (.int .i64 (kX c.toNat.toUInt8 l 0)) h)
  |none=>none
 |.index g,[a,b]=>match zbQ h a,zbQ h b,h[g]? with
  |some la,some lb,some (.lay [.iv lo _])=>if 2<=lb.length/\(lb.length:Int)<=lo/\la.length<4294967281 then some (.ret (.int .i64 (idxOf la lb)) h) else none
  |_,_,_=>none
 |.znD k,[.ptr loc off ver lim]=>match rd h loc off ver lim 1 with
  |some [.int k' n]=>if k=k' then some (.ret (.int k' n) h) else none
  |_=>none
 |.zjl,[.ptr loc off ver lim,x]=>match wr h loc off ver lim [x] with
  |some h'=>some (.ret (.tup []) h')
  |none=>none
 |.zqs k,[.ptr loc off ver lim,.int k1 o,.int k2 y]=>match rd h loc off ver lim 1,wr h loc off ver lim [.int k2 y] with
  |some [.int k' n],some h'=>if k=k'/\k1=k/\k2=k then if n=o then some (.ret (.bool true) h') else some (.ret (.bool false) h) else none
  |_,_=>none
 |.zo6 k,[.ptr loc off ver lim,.int k1 y]=>match rd h loc off ver lim 1 with
  |some [.int k' n]=>if k=k' then match wr h loc off ver lim [.int k (k.wrap (n+y))] with
    |some h'=>some (.ret (.int k (k.wrap (n+y))) h')
    |none=>none
   else none
  |_=>none
 |.count,[b,.int .u8 c]=>match zbQ h b with
  |some l=>some (.ret (.int .i64 (Go.Lib.countByte l c.toNat.toUInt8)) h)
  |none=>none
 |.zl0,[]=>some (.ret (.tup []) h)
 |.marked,[.ptr _ _ _ _]=>some (.ret (.tup []) h)
 |_,_=>none
def XK.entry(P:Program):XK->(Array Value->Sem Value)->Prop
 |.same,e=>e=Extern.AbiNoEscape.same
 |.makeNoZero t el,e=>(∃ ps,e=Extern.BytealgMakeNoZero.makeNoZero ps #[t])/\P.underlying t=some (.slice el)
 |.indexByte,e=>e=Extern.BytealgIndexByte.indexByte
 |.index g,e=>e=Extern.BytealgIndex.index/\P.globals.findIdx? (·.name == "internal/bytealg.MaxLen")=some g
 |.znD k,e=>e=Extern.Atomic.loadT (.int k)
 |.zjl,e=>e=Extern.Atomic.storeT
 |.zqs k,e=>e=Extern.Atomic.casT (.int k)
 |.zo6 k,e=>e=Extern.Atomic.update (Op.intArith .add) k true
 |.count,e=>e=Extern.BytealgCount.count
 |.zl0,e=>∃ m,e=fun _=>do mark m;pure Extern.Race.none_
 |.marked,e=>∃ m,e=Extern.Race.marked m
def XFn(P:Program)(f:FuncId)(k:XK):Prop:=
 ∃ fn e,P.funcs[f]?=some fn/\(fn.name == "runtime.NumGoroutine")=false/\fn.body.isNone=true/\Extern.findNext fn=none/\Extern.find fn=some e/\k.entry P e
def zgd(tab:List (FuncId×XK)):qc:=fun f=>match tab.lookup f with
 |some k=>some (mx k)
 |none=>none
section
variable {P:Program} {G:Gh} {B:Nat} {W0:World} {h h':za} {w:World}
theorem zrb{loc off ver lim:Nat}{x:AV}(hr:HR G B h w){r:Ver}(ha:G.at loc ver=some r)(he:wr h loc off ver lim [x]=some h'):∃ ys,rd h loc off ver lim 1=some ys:=by
 obtain⟨b,vs,hb,hg,hv,hR⟩:=hr.get ha
 unfold wr at he
 unfold rd
 rw[hb] at he |-
 cases b with
 |row cells v minv frz ro tt=>
  cases ro with
  |true=>simp at he
  |false=>
   simp only at he
   split at he
   ·rename_i hc
    rcases hR with rfl|hR
    ·simp at hv
    have hm:=hR.jm
    obtain⟨rfl,h1,h2,h3⟩:=hc
    simp only
    rw[if_pos ⟨hm,h2⟩]
    exact⟨_,rfl⟩
   ·cases he
 |lay cells=>simp at he
 |map es=>simp at he
 |iter s pos=>simp at he
 |dead=>simp at he
 |loop env ps asg body st pd=>simp at he
 |dfr=>simp at he
 |zaU m=>simp at he
 |zbm k v it=>simp at he
 |mit l s=>simp at he
 |gone=>simp at he
theorem zqq{loc off ver lim:Nat}{x:AV}(he:wr h loc off ver lim [x]=some h'):x.one=true:=by
 unfold wr at he
 split at he
 ·split at he
  ·rename_i hc;simpa using hc.2.2.2
  ·cases he
 ·cases he
theorem zdh{loc off ver lim:Nat}{x:AV}{u:Value}{r:Ver}(m:Mode)(hr:HR G B h w)(he:wr h loc off ver lim [x]=some h')(ha:G.at loc ver=some r)(h1:r.lo<=off)(h2:lim<=r.top)(hx:V G x u):
  ∃ w',(store ⟨r.b,off+r.sh-r.lo,none⟩ u m).run P w=.ok () w'/\Step G G B h' w w'/\w.frozen? ⟨r.b,off+r.sh-r.lo,none⟩=false/\w'=w.setCell ⟨r.b,off+r.sh-r.lo,none⟩ u:=by
 obtain⟨ys,hrd⟩:=zrb hr ha he
 obtain⟨us,k1,k2,k3⟩:=zD hr hrd ha h1 h2
 obtain⟨y,rfl⟩:=List.length_eq_one_iff.1 k2
 have hc:=k3 0 y rfl
 rw[Nat.add_zero] at hc
 obtain⟨w',hrun,hS⟩:=zcy (P:=P) hr he ha h1 h2 (.cons hx .nil)
 have ho:=hx.one (zqq he)
 have hadd:(⟨r.b,off+r.sh-r.lo,none⟩:Addr).add 0=⟨r.b,off+r.sh-r.lo,none⟩:=by simp [Addr.add]
 have hst:∀ m,(store ⟨r.b,off+r.sh-r.lo,none⟩ u m).run P w=if w.frozen? ⟨r.b,off+r.sh-r.lo,none⟩ then .halt (.unsupported (.unsafePointer "a write to bytes that a string shares")) w else .ok () (w.setCell ⟨r.b,off+r.sh-r.lo,none⟩ u):=fun m=>by
  rw[run_store P w _ _ m ho,hc]
 simp only[storeCells,hadd,Sem.run_bind] at hrun
 rw[hst] at hrun
 cases hz:w.frozen? ⟨r.b,off+r.sh-r.lo,none⟩ with
 |true=>rw[hz] at hrun;cases hrun
 |false=>
  rw[hz] at hrun
  refine⟨w',?_,hS,rfl,?_⟩
  ·rw[hst,hz]
   exact hrun
  ·cases hrun;rfl
theorem xZ:∀ (l:List UInt8) (a:Addr) (acc:ByteArray),(∀ j x,l[j]?=some x->w.cell? (a.add j)=some (.int .u8 x.toNat)) ->
  (Extern.Bytes.loadBytes a l.length acc).run P w=.ok ⟨acc.data++l.toArray⟩ w
 | [],a,acc,_=>by simp [Extern.Bytes.loadBytes]
 |x::l,a,acc,h=>by
  have h0:w.cell? a=some (.int .u8 x.toNat):=by
   have:=h 0 x rfl
   simpa [Addr.add] using this
  have ih:=xZ l (a.add 1) (acc.push x) (fun j y hy=>by
   have:=h (j+1) y (by simpa using hy)
   rwa [show(a.add 1).add j=a.add (j+1) from by
    unfold Addr.add
    by_cases hj:j=0
    ·subst hj;simp
    ·simp [hj];omega])
  have hx:((x.toNat:Int).toNat).toUInt8=x:=by simp
  simp only[List.length_cons,Extern.Bytes.loadBytes,Sem.run_bind,run_load,h0,Result.andThen_ok,hx]
  rw[ih]
  simp [ByteArray.push]
theorem wL{x:AV}{u:Value}{l:List UInt8}(hr:HR G B h w)(he:zbQ h x=some l)(hx:V G x u):(Extern.Bytes.bytesOf u).run P w=.ok ⟨l.toArray⟩ w:=by
 unfold zbQ at he
 split at he
 ·cases he;cases hx;rfl
 ·cases he;cases hx;rfl
 ·split at he
  ·rename_i loc off len ver clip _ cs hrd
   cases hx with
   | @sl _ _ _ _ _ cap _ r g1 g2 g3 g4 g5 g6 g7 g8 g9=>
    obtain⟨us,o1,o2,o3⟩:=zD hr hrd g1 g2 (by omega)
    have hub:=zW he o1
    have hln:l.length=len:=by rw[<- o2,hub];simp
    have:=xZ (P:=P) (w:=w) l ⟨r.b,off+r.sh-r.lo,none⟩ .empty (fun j x hj=>by
     rw[Addr.add_lit]
     exact o3 j _ (by rw[hub];simp [hj]))
    rw[hln] at this
    show(Extern.Bytes.loadBytes _ _ _).run P w=_
    rw[this]
    simp
   | @sl0 _ _ _ _ o _ r g1 g2 g3 g6 g9=>
    obtain⟨us,o1,o2,o3⟩:=zD hr hrd g1 g2 (by omega)
    have hub:=zW he o1
    obtain rfl:l=[]:=by
     have:us=[]:=List.eq_nil_of_length_eq_zero o2
     rw[this] at hub
     cases l with
     |nil=>rfl
     |cons=>simp at hub
    rfl
  ·cases he
 ·cases he
theorem zdB(c:UInt8)(L:List UInt8):∀ (l:List UInt8) (i:Nat),L.drop i=l->(match(List.range' i l.length).find? fun j=>(⟨L.toArray⟩:ByteArray)[j]! == c with|some j=>goInt j|none=>goInt (-1))=Value.int .i64 (kX c l i)
 | [],i,h=>by simp [kX,goInt]
 |x::l,i,h=>by
  have hlt:i<L.length:=by
   rcases Nat.lt_or_ge i L.length with h1|h1
   ·exact h1
   ·rw[List.drop_eq_nil_of_le h1] at h;cases h
  have hx:L[i]=x:=by
   have:=List.drop_eq_getElem_cons hlt
   rw[h] at this
   exact(List.cons.inj this).1.symm
  have hl:L.drop (i+1)=l:=by
   have:=List.drop_eq_getElem_cons hlt
   rw[h] at this
   exact(List.cons.inj this).2.symm
  have ih:=zdB c L l (i+1) hl
  have hg:(⟨L.toArray⟩:ByteArray)[i]! = x:=by
   rw[getElem!_pos (⟨L.toArray⟩:ByteArray) i (show i<L.toArray.size by simpa using hlt)]
   exact hx
  simp only[List.length_cons,List.range'_succ,List.find?_cons,hg,kX]
  cases hc:x==c with
  |true=>simp [goInt]
  |false=>simpa using ih
theorem zeC{u:Value}{c:Int}{l:List UInt8}(hb:(Extern.Bytes.bytesOf u).run P w=.ok ⟨l.toArray⟩ w):(Extern.BytealgIndexByte.indexByte #[u,.int .u8 c]).run P w=.ok (.int .i64 (kX c.toNat.toUInt8 l 0)) w:=by
 have hf:=zdB c.toNat.toUInt8 l l 0 rfl
 rw[<- hf]
 change Sem.run P (do
  let b <- Extern.Bytes.bytesOf u
  let c' <- Extern.Bytes.asByte (.int .u8 c)
  match(List.range b.size).find? fun i=>b[i]! == c' with
  |some i=>pure (goInt i)
  |none=>pure (goInt (-1))) w=_
 simp only[Sem.run_bind,hb,Result.andThen_ok,Extern.Bytes.asByte,Sem.run_pure]
 rw[show(⟨l.toArray⟩:ByteArray).size=l.length from by simp [ByteArray.size],List.range_eq_range']
 split<;>rfl
theorem zkC{u:Value}{c:Int}{l:List UInt8}(hb:(Extern.Bytes.bytesOf u).run P w=.ok ⟨l.toArray⟩ w):(Extern.BytealgCount.count #[u,.int .u8 c]).run P w=.ok (.int .i64 (Go.Lib.countByte l c.toNat.toUInt8)) w:=by
 have h:=Go.Lib.run_countString (P:=P) ⟨l.toArray⟩ c w
 have e:(Extern.BytealgCount.count #[u,.int .u8 c]).run P w=(Extern.BytealgCount.count #[.string ⟨l.toArray⟩,.int .u8 c]).run P w:=by
  change Sem.run P (do
   let b <- Extern.Bytes.bytesOf u
   let c' <- Extern.Bytes.asByte (.int .u8 c)
   pure (goInt (b.foldl (fun n x=>if x==c' then n+1 else n) (0:Nat)))) w=Sem.run P (do
   let b <- Extern.Bytes.bytesOf (.string ⟨l.toArray⟩)
   let c' <- Extern.Bytes.asByte (.int .u8 c)
   pure (goInt (b.foldl (fun n x=>if x==c' then n+1 else n) (0:Nat)))) w
  simp only[Sem.run_bind,hb]
  rfl
 rw[e]
 simpa using h
theorem rd1{loc off ver lim:Nat}{x:AV}{r:Ver}(hr:HR G B h w)(hrd:rd h loc off ver lim 1=some [x])(ha:G.at loc ver=some r)(h1:r.lo<=off)(h2:lim<=r.top):∃ u,V G x u/\w.cell? ⟨r.b,off+r.sh-r.lo,none⟩=some u:=by
 obtain⟨us,k1,k2,k3⟩:=zD hr hrd ha h1 h2
 obtain⟨y,rfl⟩:=List.length_eq_one_iff.1 k2
 cases k1 with
 |cons k1 _=>exact⟨y,k1,by simpa using k3 0 y rfl⟩
theorem run_read{k:IntKind}{n:Int}{a:Addr}(h:w.cell? a=some (.int k n)):(Extern.Atomic.read (.int k) a).run P w=.ok (.int k n) w:=by
 simp [Extern.Atomic.read,h]
theorem zkG{k:IntKind}{n:Int}{a:Addr}(h:w.cell? a=some (.int k n)):(Extern.Atomic.loadT (.int k) #[.pointer (some a)]).run P w=.ok (.int k n) w:=by
 show Sem.run P (do Extern.Atomic.read (.int k) (<- asAddr (.pointer (some a)))) w=_
 simp [asAddr,run_read h]
theorem ziP{a:Addr}{u:Value}{w':World}(h:(store a u .atomic).run P w=.ok () w'):(Extern.Atomic.storeT #[.pointer (some a),u]).run P w=.ok (.tuple #[]) w':=by
 show Sem.run P (do
  store (<- asAddr (.pointer (some a))) u .atomic
  pure Extern.Atomic.none_) w=_
 simp [asAddr,h,Extern.Atomic.none_]
theorem zou{k:IntKind}{n y:Int}{k1:IntKind}{a:Addr}{w':World}(hc:w.cell? a=some (.int k n))(h:(store a (.int k (k.wrap (n+y))) .atomic).run P w=.ok () w'):
  (Extern.Atomic.update (Op.intArith .add) k true #[.pointer (some a),.int k1 y]).run P w=.ok (.int k (k.wrap (n+y))) w':=by
 show Sem.run P (do
  let a <- asAddr (.pointer (some a))
  let old <- Extern.Atomic.read (.int k) a
  let new <- Op.intArith .add k (<- asInt old) (<- asInt (.int k1 y))
  store a new .atomic
  pure (if true then new else old)) w=_
 simp [asAddr,run_read hc,asInt,asIntOf,Op.intArith,h]
theorem zfa:∀ (n t:Nat) (acc:Array Value),(∀ (i:Nat) (u:Value),acc[i]?=some u->∃ z,u=Value.int .u8 z)->∀ (i:Nat) (u:Value),(Extern.BytealgMakeNoZero.digits n t acc)[i]?=some u->∃ z,u=Value.int .u8 z
 |0,_,acc,h=>h
 |n+1,t,acc,h=>by
  rw[Extern.BytealgMakeNoZero.digits]
  refine zfa n _ _ fun i u hi=>?_
  rw[Array.getElem?_push] at hi
  split at hi
  ·cases hi;exact⟨_,rfl⟩
  ·exact h i u hi
theorem zc3(w:World)(ps:Array TypeId)(t e:TypeId)(ht:P.underlying t=some (.slice e))(n:Nat)(hn:n<=281474976710656):
  ∃ cs:Array Value,(Extern.BytealgMakeNoZero.makeNoZero ps #[t] #[.int .i64 n]).run P w=.ok (.slice (some ⟨w.heap.size,0,none⟩) n cs.size) (w.drew.drew.alloc (.cells cs e))/\n<=cs.size/\(n<=maxLen->cs.size<=maxLen)/\∀ (i:Nat) (u:Value),cs[i]?=some u->∃ z,u=Value.int .u8 z:=by
 have hdef:Extern.BytealgMakeNoZero.makeNoZero ps #[t] #[.int .i64 n] =
   (do
    let .slice elem <- underlying t|stuck "bytealg.MakeNoZero: slice type expected"
    if(n:Int)<0||(n:Int) > 2 ^ 48 then runtimePanic (.error "makeslice: len out of range")
    let cap <- choose (.appendCap (n:Int).toNat 0 elem)
    askRoom cap
    let bytes <- choose (.extern "internal/bytealg.MakeNoZero.bytes" 0)
    let a <- newRow elem (Extern.BytealgMakeNoZero.digits cap bytes #[])
    pure (.slice (some a) (n:Int).toNat cap)):=rfl
 refine⟨Extern.BytealgMakeNoZero.digits (grownCap w n 0 e) ((Question.extern "internal/bytealg.MakeNoZero.bytes" 0).cut (w.tape (w.drawn+1) (.extern "internal/bytealg.MakeNoZero.bytes" 0))) #[],?_,?_,?_,zfa _ _ _ (by simp)⟩
 ·rw[hdef]
  have h1:¬ (n:Int)<0:=by omega
  have h2:¬ (281474976710656:Int)<(n:Int):=by omega
  simp [run_underlying ht,h1,h2,Question.forced,newRow,Lib.size_digits,grownCap]
 ·rw[Lib.size_digits]
  simpa using grownCap_ge w n 0 e
 ·intro hm
  rw[Lib.size_digits]
  simpa using grownCap_le_maxLen w n 0 e hm
theorem zdj{n:String}{g:Nat}(h:P.globals.findIdx? (·.name==n)=some g):g<P.globals.size:=by
 rw[Array.findIdx?_eq_some_iff_getElem] at h
 exact h.1
theorem zjV{loc:Nat}{x:AV}{r:Ver}(hr:HR G B h w)(he:h[loc]?=some (.lay [x]))(ha:G.at loc 0=some r):∃ u,V G x u/\w.cell? ⟨r.b,r.sh,none⟩=some u:=by
 obtain⟨b,vs,hb,hg,hv,hR⟩:=hr.get ha
 rw[he] at hb;cases hb
 rcases hR with rfl|⟨r0,rfl,hl,ht,c,T,fr,q1,q2,q3,q4⟩
 ·simp at hv
 ·simp at hv
  subst hv
  obtain⟨x',u,e1,e2,e3⟩:=q4 0 (by rw[ht];simp)
  simp at e1
  subst e1
  refine⟨u,e3,?_⟩
  rw[Nat.zero_add] at e2
  rw[World.cell?,q1]
  simpa using e2
theorem zec(l:List UInt8)(i n:Nat):(⟨l.toArray⟩:ByteArray).extract i (i+n)=⟨((l.drop i).take n).toArray⟩:=by
 apply ByteArray.ext
 rw[ByteArray.data_extract]
 simp
theorem zjp(a b:List UInt8):((⟨a.toArray⟩:ByteArray)==⟨b.toArray⟩)=(a==b):=by
 rw[show((⟨a.toArray⟩:ByteArray)==⟨b.toArray⟩)=(a.toArray==b.toArray) from rfl]
 simp
theorem zkD{a b:Value}{la lb:List UInt8}{g:Nat}{m:Int}(ha:(Extern.Bytes.bytesOf a).run P w=.ok ⟨la.toArray⟩ w)(hb:(Extern.Bytes.bytesOf b).run P w=.ok ⟨lb.toArray⟩ w)(hg:P.globals.findIdx? (·.name == "internal/bytealg.MaxLen")=some g)
  (hc:w.cell? ⟨g,0,none⟩=some (.int .i64 m)) (h2:2<=lb.length) (hm:(lb.length:Int)<=m) (hl:la.length<4294967281):(Extern.BytealgIndex.index #[a,b]).run P w=.ok (.int .i64 (idxOf la lb)) w:=by
 have hmax:(Extern.BytealgIndex.maxLen).run P w=.ok m w:=by
  simp [Extern.BytealgIndex.maxLen,globalAddr,hg,run_load,hc,asInt,asIntOf]
 have e1:(⟨la.toArray⟩:ByteArray).size=la.length:=by simp [ByteArray.size]
 have e2:(⟨lb.toArray⟩:ByteArray).size=lb.length:=by simp [ByteArray.size]
 have c1:¬ lb.length<2:=by omega
 have c2:¬ m<(lb.length:Int):=by omega
 have c3:¬ 4294967281<=la.length:=by omega
 have e3:((List.range (la.length+1-lb.length)).find? fun i=>(⟨la.toArray⟩:ByteArray).extract i (i+lb.length)==⟨lb.toArray⟩)=(List.range (la.length+1-lb.length)).find? fun i=>(la.drop i).take lb.length==lb:=by
  congr 1
  funext i
  rw[zec]
  exact(zjp _ _)
 change Sem.run P (do
  let a <- Extern.Bytes.bytesOf a
  let b <- Extern.Bytes.bytesOf b
  if b.size<2||(b.size:Int) > (<- Extern.BytealgIndex.maxLen) then
   unsupported (.noEntry "extern/internal/bytealg.Index.length")
  if a.size ≥ 2 ^ 32-15 then
   unsupported (.noEntry "extern/internal/bytealg.Index: a haystack of 2^32 - 15 bytes or more")
  match(List.range (a.size+1-b.size)).find? fun i=>a.extract i (i+b.size)==b with
  |some i=>pure (goInt i)
  |none=>pure (goInt (-1))) w=_
 simp only[Sem.run_bind,ha,hb,hmax,Result.andThen_ok,e1,e2,e3]
 simp [c1,c2,c3,idxOf]
 cases hq:(List.range (la.length+1-lb.length)).find? fun i=>(la.drop i).take lb.length==lb with
 |none=>simp [goInt]
 |some i=>simp [goInt]
theorem zme{k:XK}{f:FuncId}(hf:XFn P f k){args:List AV}{r:CR}(hm:mx k args h=some r):zb2 P B W0 f args h r:=by
 intro G us w hx hr hg
 obtain⟨fn,e,f1,f2,f3,f4,f5,f6⟩:=hf
 refine .inr ?_
 have hrun:=run_callFunc_extern f1 f2 f3 f4 f5 us.toArray w
 have done:∀ {v:AV} {h':za} {u:Value} {w':World} {G':Gh},r=.ret v h'->(e us.toArray).run P w=.ok u w'->Step G G' B h' w w'->V G' v u ->
   ∃ v h' u w' G',r=.ret v h'/\(callFunc f us.toArray).run P w=.ok (.value u) w'/\Step G G' B h' w w'/\V G' v u:=fun h1 h2 h3 h4=>⟨_,_,_,_,_,h1,by rw[hrun,h2];rfl,h3,h4⟩
 unfold mx at hm
 split at hm
 ·
  cases hm
  obtain rfl:=f6
  cases hx with
  |cons h1 h2=>cases h2;exact done rfl rfl (.refl hr) h1
 ·
  rename_i t el n
  obtain⟨⟨ps,rfl⟩,ht⟩:=f6
  split at hm
  ·rename_i hn
   cases hm
   cases hx with
   |cons h1 h2=>
    cases h2
    have:=qV h1
    subst this
    obtain⟨m,rfl⟩:∃ m:Nat,n=(m:Int):=⟨n.toNat,by omega⟩
    obtain⟨cs,hrun,hle,hmx,hc8⟩:=zc3 (P:=P) w ps t el ht m (by omega)
    have hmm:=hmx (by simp only[maxLen];omega)
    have hr2:(Int.toNat (m:Int))=m:=by simp
    have hvl:VL G (List.replicate m AV.any) (cs.toList.take m):=VL.za2 (by simp;omega) (fun i x u e1 e2=>by
     rw[List.getElem?_replicate] at e1
     split at e1
     ·cases e1
      rename_i hi
      rw[List.getElem?_take_of_lt hi,Array.getElem?_toList] at e2
      obtain⟨z,hz⟩:=hc8 i u e2
      rw[hz]
      exact .any z
     ·cases e1)
    have hS:=Step.newRow (c:=cs) (T:=el) (w':=w.drew.drew.alloc (.cells cs el)) hr hvl
     (fun p hp=>by rw[List.getElem?_take_of_lt (by simpa using hp),Array.getElem?_toList])
     (heap_alloc_new w.drew.drew _) (by simp) (fun b hb=>(xw.alloc [] w.drew.drew _).block b hb (by simp)) rfl rfl rfl
    rw[hr2]
    refine done rfl hrun hS ?_
    rw[<- hr.len]
    exact .sl (r:=⟨w.heap.size,0,(List.replicate m AV.any).length,_,0⟩) (by rw[jz];rfl) (Nat.le_refl _) (by simp) hle (by simp) (fun e=>by cases e) (fun _=>by simp;omega) hmm (by omega)
  ·cases hm
 ·
  obtain rfl:=f6
  split at hm
  ·rename_i l hl
   cases hm
   rename_i c _
   cases hx with
   |cons h1 h2=>cases h2 with
    |cons h3 h4=>
     cases h4
     have:=qV h3
     subst this
     refine done rfl ?_ (.refl hr) (.int _ _)
     have hb:=wL (P:=P) hr hl h1
     exact zeC hb
  ·cases hm
 ·
  rename_i g a b
  obtain⟨rfl,hgn⟩:=f6
  split at hm
  ·rename_i la lb lo hi h1 h2 h3
   split at hm
   ·rename_i hc
    obtain⟨c1,c2,c3⟩:=hc
    cases hm
    cases hx with
    |cons x1 x2=>cases x2 with
     |cons x3 x4=>
      cases x4
      refine done rfl ?_ (.refl hr) (.int _ _)
      have hgl:g<P.globals.size:=zdj hgn
      obtain⟨rr,e1,e2,e3,e4⟩:=hg.g g hgl
      obtain⟨u,o1,hcell⟩:=zjV hr h3 e1
      cases o1 with
      | @iv _ _ m m1 m2=>
        rw[e2,e4] at hcell
        exact zkD (wL (P:=P) hr h1 x1) (wL (P:=P) hr h2 x3) hgn hcell c1 (by omega) c3
   ·cases hm
  ·cases hm
 ·
  obtain rfl:=f6
  rename_i k loc off ver lim
  cases hx with
  |cons h1 h2=>
   cases h2
   cases h1 with
   |ptr g1 g2 g3=>
    split at hm
    ·rename_i k' n hrd
     split at hm
     ·rename_i hk
      subst hk
      cases hm
      obtain⟨u,k1,k2⟩:=rd1 hr hrd g1 g2 g3
      rw[qV k1] at k2
      exact done rfl (zkG k2) (.refl hr) (.int _ _)
     ·cases hm
    ·cases hm
 ·
  obtain rfl:=f6
  rename_i loc off ver lim x
  split at hm
  ·rename_i h' hw
   cases hm
   cases hx with
   |cons h1 h2=>cases h2 with
    |cons h3 h4=>
     cases h4
     cases h1 with
     |ptr g1 g2 g3=>
      obtain⟨w',hst,hS,_⟩:=zdh (P:=P) .atomic hr hw g1 g2 g3 h3
      exact done rfl (ziP hst) hS (.tup .nil)
  ·cases hm
 ·
  obtain rfl:=f6
  rename_i k loc off ver lim k1 o k2 y
  split at hm
  ·rename_i k' n h' hrd hw
   split at hm
   ·rename_i hk
    obtain⟨rfl,rfl,rfl⟩:=hk
    cases hx with
    |cons h1 h2=>cases h2 with
     |cons h3 h4=>cases h4 with
      |cons h5 h6=>
       cases h6
       have:=qV h3
       subst this
       have:=qV h5
       subst this
       cases h1 with
       | @ptr _ _ _ _ r g1 g2 g3=>
        obtain⟨w',hst,hS,hfr,hset⟩:=zdh (P:=P) .atomic hr hw g1 g2 g3 h5
        obtain⟨u,e1,e2⟩:=rd1 hr hrd g1 g2 g3
        rw[qV e1] at e2
        split at hm
        ·rename_i hno
         cases hm
         subst hno
         exact⟨_,_,_,_,_,rfl,run_call_cas_hit f1 f2 f3 f4 _ f5 e2 hfr,hset ▸ hS,.bool true⟩
        ·rename_i hno
         cases hm
         exact⟨_,_,_,_,_,rfl,run_call_cas_miss f1 f2 f3 f4 _ f5 e2 hfr hno,.refl hr,.bool false⟩
   ·cases hm
  ·cases hm
 ·
  obtain rfl:=f6
  rename_i k loc off ver lim k1 y
  split at hm
  ·rename_i k' n hrd
   split at hm
   ·rename_i hk
    subst hk
    split at hm
    ·rename_i h' hw
     cases hm
     cases hx with
     |cons h1 h2=>cases h2 with
      |cons h3 h4=>
       cases h4
       have:=qV h3
       subst this
       cases h1 with
       |ptr g1 g2 g3=>
        obtain⟨w',hst,hS,hfr⟩:=zdh (P:=P) .atomic hr hw g1 g2 g3 (.int _ _)
        obtain⟨u,e1,e2⟩:=rd1 hr hrd g1 g2 g3
        rw[qV e1] at e2
        exact done rfl (zou e2 hst) hS (.int _ _)
    ·cases hm
   ·cases hm
  ·cases hm
 ·
  obtain rfl:=f6
  split at hm
  ·rename_i l hl
   cases hm
   rename_i c _
   cases hx with
   |cons h1 h2=>cases h2 with
    |cons h3 h4=>
     cases h4
     have:=qV h3
     subst this
     exact done rfl (zkC (wL (P:=P) hr hl h1)) (.refl hr) (.int _ _)
  ·cases hm
 ·
  obtain⟨m,rfl⟩:=f6
  cases hm
  cases hx
  exact⟨_,_,_,_,_,rfl,run_call_mark0 f1 f2 f3 f4 m f5 w,.refl hr,.tup .nil⟩
 ·obtain⟨m,rfl⟩:=f6
  cases hm
  cases hx with
  |cons h1 h2=>
   cases h2
   cases h1 with
   |ptr g1 g2 g3=>exact⟨_,_,_,_,_,rfl,run_call_marked f1 f2 f3 f4 m f5 _ w,.refl hr,.tup .nil⟩
 ·cases hm
theorem w6{f:FuncId}{k:XK}:∀ {tab:List (FuncId×XK)},tab.lookup f=some k->(f,k) ∈ tab
 | [],hk=>by cases hk
 |p::t,hk=>by
  rw[List.lookup_cons] at hk
  split at hk
  ·rename_i he
   cases hk
   have:=eq_of_beq he
   subst this
   exact List.mem_cons_self
  ·exact List.mem_cons_of_mem _ (w6 hk)
theorem zob{tab:List (FuncId×XK)}(h:∀ f k,(f,k) ∈ tab->XFn P f k)(B:Nat)(W0:World):zcz P B W0 (zgd tab):=by
 intro f g hg args h' r hr
 unfold zgd at hg
 split at hg
 ·rename_i k hk
  cases hg
  refine zme (h f k ?_) hr
  exact w6 hk
 ·cases hg
end
end Go.Mx
namespace Go.Sx
open Go Go.Gx Go.Mx
inductive U where
 |bool|int (k:IntKind)|u8|str|sl (u:U)|pair (a b:U)|unit|slc (u:U)
 deriving DecidableEq,Inhabited
@[reducible] def El:U->Type
 |.bool=>Bool
 |.int _=>Int
 |.u8=>UInt8
 |.str=>List UInt8
 |.sl u=>List (El u)
 |.pair a b=>El a×El b
 |.unit=>Unit
 |.slc u=>List (El u)
def U.sz:U->Nat
 |.pair a b=>a.sz+b.sz
 |.unit=>0
 |_=>1
def U.agg:U->Bool
 |.pair _ _=>true
 |.unit=>true
 |_=>false
def U.zero:(u:U)->El u
 |.bool=>false
 |.int _=>(0:Int)
 |.u8=>(0:UInt8)
 |.str=>([]:List UInt8)
 |.sl _=>[]
 |.pair a b=>(a.zero,b.zero)
 |.unit=>()
 |.slc _=>[]
def nth(u:U)(l:List (El u))(i:Nat):El u:=l.getD i u.zero
def slice{α:Type}(l:List α)(a b:Nat):List α:=(l.drop a).take (b-a)
def zpe{α:Type}(l:List α)(a:Nat):List α:=slice l a (Int.toNat ((List.length l:Nat):Int))
inductive SV where
 |a (v:AV)
 |u8 (b:UInt8)
 |ptr (loc off lim:Nat)
 |zea (loc n:Nat) (i fo:Nat)
 |zcP (u:U) (x:El u) (fo:Nat)
 |gs (loc n:Nat)
 |sl (loc n:Nat) (off len:Nat) (clip:Bool)
 |isl (u:U) (l:List (El u))
 |cl (u:U) (l:List (El u))
 |ul (u:U) (l:List (El u))
 |nsl (u:U) (l:List (El u))
 |lsl (n:Nat)
 |zh7 (loc n len:Nat)
 |zpd (loc n:Nat)
 |csl (loc off n sz:Nat)
 |map (loc:Nat)
 |zoW (ks vs:List SV)
 |fn (f:FuncId) (first cap:List SV)
 |ifc (t:TypeId) (v:SV)
 |agg (l:List SV)
 |tup (l:List SV)
 |zdD (g off lim:Nat)
 |yld (loc:Nat)
 |top
 deriving Inhabited
def SV.cells:SV->List SV
 |.agg l=>l
 |v=>[v]
def SV.one:SV->Bool
 |.agg _|.tup _|.top=>false
 |.a v=>v.one
 |_=>true
inductive SB where
 |cells (l:List SV) (md:Nat) (mk:Option TypeId:=none)
 |seq (u:U) (l:List (El u)) (n md:Nat)
 |map (ks vs:List SV) (md:Nat)
 |kv (u v:U) (l:List (El u×El v)) (md:Nat)
 |loop (env:List SV) (id:Nat) (md:Nat)
 |zbm (k v:SV) (it:Nat) (md:Nat)
 |mit (l:Nat) (s:Bool) (md:Nat)
 |gone
 deriving Inhabited
abbrev SH:=List SB
def enc:(u:U)->El u->List SV
 |.bool,b=>[.a (.bool b)]
 |.int k,n=>[.a (.int k n)]
 |.u8,b=>[.u8 b]
 |.str,l=>[.a (.str l)]
 |.sl u,l=>[.isl u l]
 |.slc u,l=>[.ul u l]
 |.pair u v,x=>enc u x.1++enc v x.2
 |.unit,_=>[]
def zf8:(u:U)->El u->SV
 |.bool,b=>.a (.bool b)
 |.int k,n=>.a (.int k n)
 |.u8,b=>.u8 b
 |.str,l=>.a (.str l)
 |.sl u,l=>.isl u l
 |.slc u,l=>.ul u l
 |.pair u v,x=>.agg (enc (.pair u v) x)
 |.unit,x=>.agg []
def kvK(u v:U)(l:List (El u×El v)):List SV:=l.map fun p=>zf8 u p.1
def kvV(u v:U)(l:List (El u×El v)):List SV:=l.map fun p=>zf8 v p.2
def qX(u v:U)(l:List (El u)):Option (List (El v)):=if h:u=v then some (h ▸ l) else none
structure Gst where
 h:za
 Φ:Nat->Prop
 σ:List (Option (Nat×Nat))
 sh:SH
def part(sz:Nat)(cs:List AV)(i:Nat):List AV:=(cs.drop (i*sz)).take sz
def RE(h:za)(Φ:Nat->Prop):(u:U)->El u->List AV->Prop
 |.bool,b,cs=>cs=[.bool b]
 |.int k,n,cs=>cs=[.int k n]
 |.u8,b,cs=>cs=[.int .u8 (b.toNat:Int)]
 |.str,l,cs=>cs=[.str l]
 |.sl u,l,cs=>∃ x,cs=[x]/\((l=[]/\x=.qj)\/∃ m off ver c' cs',x=.sl m off (List.length l) u.sz ver c'/\(c'=false\/l=[])/\Φ m/\rd h m off ver (off+List.length l*u.sz) (List.length l*u.sz)=some cs'/\cs'.length=List.length l*u.sz /\
   ∀ i e,(l:List (El u))[i]?=some e->RE h Φ u e (part u.sz cs' i))
 |.slc u,l,cs=>∃ x,cs=[x]/\∃ c:Bool,((l=[]/\x=.qj)\/∃ m off ver c' cs',x=.sl m off (List.length l) u.sz ver c'/\(c'=c\/l=[])/\Φ m/\rd h m off ver (off+List.length l*u.sz) (List.length l*u.sz)=some cs'/\cs'.length=List.length l*u.sz /\
   ∀ i e,(l:List (El u))[i]?=some e->RE h Φ u e (part u.sz cs' i))
 |.pair u v,x,cs=>∃ c1 c2,cs=c1++c2/\RE h Φ u x.1 c1/\RE h Φ v x.2 c2
 |.unit,_,cs=>cs=[]
def RCs(h:za)(Φ:Nat->Prop)(u:U)(l:List (El u))(cs:List AV):Prop:=cs.length=l.length*u.sz/\∀ i e,l[i]?=some e->RE h Φ u e (part u.sz cs i)
def RSl(h:za)(Φ:Nat->Prop)(c:Bool)(u:U)(l:List (El u))(x:AV):Prop:=
 (l=[]/\x=.qj)\/∃ m off ver c' cs,x=.sl m off l.length u.sz ver c'/\(c'=c\/l=[])/\Φ m/\rd h m off ver (off+l.length*u.sz) (l.length*u.sz)=some cs/\RCs h Φ u l cs
def znJ:AV->Prop
 |.sl _ _ _ _ _ c=>c=true
 |_=>True
theorem zhw{h:za}{Φ:Nat->Prop}{u:U}{l:List (El u)}{cs:List AV}:RE h Φ (.slc u) l cs↔∃ x,cs=[x]/\∃ c,RSl h Φ c u l x:=Iff.rfl
theorem znB{h:za}{Φ:Nat->Prop}{u:U}{l:List (El u)}{cs:List AV}:RE h Φ (.sl u) l cs↔∃ x,cs=[x]/\RSl h Φ false u l x:=Iff.rfl
def Gst.at(X:Gst)(loc m:Nat):Prop:=∃ v,X.σ[loc]?=some (some (m,v))
def Gst.cur(X:Gst)(loc n:Nat)(Q:(u:U)->Nat->Option (Nat×Nat)->Prop):Prop:=
 ∃ o,X.σ[loc]?=some o/\∀ u l k md,X.sh[loc]?=some (.seq u l k md)->n<=k/\(n=k->Q u l.length o)
mutual
def RV(X:Gst):SV->AV->Prop
 |.a v,x=>x=v
 |.u8 b,x=>x=.int .u8 (b.toNat:Int)
 |.ptr loc off lim,x=>∃ m,X.at loc m/\x=.ptr m off 0 lim
 |.zea loc n i fo,x=>x.one=true/\X.cur loc n fun u len o=>i<len/\∃ m ver lim,o=some (m,ver)/\x=.ptr m (i*u.sz+fo) ver lim/\(i+1)*u.sz<=lim
 |.zcP u e fo,x=>∃ m off ver lim cs,x=.ptr m (off+fo) ver lim/\X.Φ m/\off+u.sz<=lim/\(∃ lim',rd X.h m off ver lim' u.sz=some cs)/\cs.length=u.sz/\RE X.h X.Φ u e cs
 |.gs loc n,x=>x.one=true/\X.cur loc n fun u len o=>match o with
  |some (m,ver)=>x=.sl m 0 len u.sz ver false
  |none=>x=.qj/\len=0
 |.sl loc n off len c,x=>x.one=true/\X.cur loc n fun u k o=>off+len<=k/\match o with
  |some (m,ver)=>x=.sl m (off*u.sz) len u.sz ver c
  |none=>x=.qj
 |.isl u l,x=>RSl X.h X.Φ false u l x
 |.cl u l,x=>RSl X.h X.Φ true u l x/\znJ x
 |.ul u l,x=>∃ c,RSl X.h X.Φ c u l x
 |.nsl u l,x=>∃ m off ver c' cs,x=.sl m off l.length u.sz ver c'/\(c'=false\/l=[])/\X.Φ m/\rd X.h m off ver (off+l.length*u.sz) (l.length*u.sz)=some cs/\RCs X.h X.Φ u l cs
 |.lsl n,x=>(n=0/\x=.qj)\/∃ m off sz ver c,x=.sl m off n sz ver c
 |.zpd loc n,x=>x.one=true/\X.cur loc n fun u l o=>∃ m ver,o=some (m,ver)/\x=.ptr m 0 ver (l*u.sz)
 |.zh7 loc n len,x=>x.one=true/\X.cur loc n fun u l o=>len=l/\∃ m,o=some (m,0)/\x=.ptr m 0 0 (len*u.sz)
 |.csl loc off n sz,x=>∃ m,X.at loc m/\x=.sl m off n sz 0 false
 |.map loc,x=>∃ m,X.at loc m/\x=.map m
 |.zoW ks vs,x=>∃ m es,x=.map m/\X.Φ m/\X.h[m]?=some (.map es)/\RVs X ks (es.map (·.1))/\RVs X vs (es.map (·.2))
 |.fn f a b,x=>∃ a' b',x=.fn f a' b'/\RVs X a a'/\RVs X b b'
 |.ifc t v,x=>∃ v',x=.ifc t v'/\RV X v v'
 |.agg l,x=>∃ l',x=.agg l'/\RVs X l l'
 |.tup l,x=>∃ l',x=.tup l'/\RVs X l l'
 |.zdD g off lim,x=>x=.ptr g off 0 lim
 |.yld loc,x=>∃ m,X.at loc m/\x=.yld m
 |.top,_=>True
def RVs(X:Gst):List SV->List AV->Prop
 | [],l=>l=[]
 |v::vs,l=>∃ x xs,l=x::xs/\RV X v x/\RVs X vs xs
end
structure Gst.le(X Y:Gst):Prop where
 h:∀ m,X.Φ m->Y.h[m]?=X.h[m]?
 Φ:∀ m,X.Φ m->Y.Φ m
 len:X.σ.length<=Y.σ.length
 at_:∀ (loc m v:Nat),X.σ[loc]?=some (some (m,v))->∃ v',Y.σ[loc]?=some (some (m,v'))
 seq:∀ (loc:Nat) (u:U) (l:List (El u)) (k md:Nat),X.sh.length > loc->Y.sh[loc]?=some (.seq u l k md)->∃ l' k' md',X.sh[loc]?=some (.seq u l' k' md')/\k'<=k/\(k'=k->l'.length=l.length/\Y.σ[loc]?=X.σ[loc]?)
 shl:X.σ.length=X.sh.length
theorem zax{h h':za}{m off ver lim n:Nat}(e:h'[m]?=h[m]?):rd h' m off ver lim n=rd h m off ver lim n:=by unfold rd;rw[e]
theorem RE.le{h h':za}{Φ Φ':Nat->Prop}(hh:∀ m,Φ m->h'[m]?=h[m]?)(hΦ:∀ m,Φ m->Φ' m):∀ {u:U} {x:El u} {cs:List AV},RE h Φ u x cs->RE h' Φ' u x cs
 |.bool,_,_,q=>q
 |.int _,_,_,q=>q
 |.u8,_,_,q=>q
 |.str,_,_,q=>q
 |.sl u,l,cs,⟨x,e,q⟩=>⟨x,e,q.imp id fun⟨m,off,ver,c',cs',q1,q0,q2,q3,q4,q5⟩=>⟨m,off,ver,c',cs',q1,q0,hΦ _ q2,by rw[zax (hh _ q2)];exact q3,q4,fun i e hi=>RE.le hh hΦ (q5 i e hi)⟩⟩
 |.slc u,l,cs,⟨x,e,c,q⟩=>⟨x,e,c,q.imp id fun⟨m,off,ver,c',cs',q1,q0,q2,q3,q4,q5⟩=>⟨m,off,ver,c',cs',q1,q0,hΦ _ q2,by rw[zax (hh _ q2)];exact q3,q4,fun i e hi=>RE.le hh hΦ (q5 i e hi)⟩⟩
 |.pair _ _,_,_,⟨c1,c2,e,q1,q2⟩=>⟨c1,c2,e,RE.le hh hΦ q1,RE.le hh hΦ q2⟩
 |.unit,_,_,q=>q
theorem RCs.le{h h':za}{Φ Φ':Nat->Prop}(hh:∀ m,Φ m->h'[m]?=h[m]?)(hΦ:∀ m,Φ m->Φ' m){u:U}{l:List (El u)}{cs:List AV}(q:RCs h Φ u l cs):RCs h' Φ' u l cs:=⟨q.1,fun i e hi=>(q.2 i e hi).le hh hΦ⟩
theorem RSl.le{h h':za}{Φ Φ':Nat->Prop}(hh:∀ m,Φ m->h'[m]?=h[m]?)(hΦ:∀ m,Φ m->Φ' m){c:Bool}{u:U}{l:List (El u)}{x:AV}(q:RSl h Φ c u l x):RSl h' Φ' c u l x:=
 q.imp id fun⟨m,off,ver,c',cs',q1,q0,q2,q3,q4⟩=>⟨m,off,ver,c',cs',q1,q0,hΦ _ q2,by rw[zax (hh _ q2)];exact q3,q4.le hh hΦ⟩
theorem Gst.ze9{X Y:Gst}(hl:X.le Y){loc n:Nat}{Q:(u:U)->Nat->Option (Nat×Nat)->Prop}(q:X.cur loc n Q):Y.cur loc n Q:=by
 obtain⟨o,h1,h2⟩:=q
 have hlt:loc<X.σ.length:=(List.getElem?_eq_some_iff.1 h1).1
 have hy:loc<Y.σ.length:=Nat.lt_of_lt_of_le hlt hl.len
 refine⟨Y.σ[loc],List.getElem?_eq_getElem hy,fun u l k md hs=>?_⟩
 obtain⟨l',k',md',h3,h4,h5⟩:=hl.seq loc u l k md (by rw[<- hl.shl];exact hlt) hs
 obtain⟨h6,h7⟩:=h2 _ _ _ _ h3
 refine⟨Nat.le_trans h6 h4,fun hn=>?_⟩
 have hk:k'=k:=Nat.le_antisymm h4 (hn ▸ h6)
 obtain⟨h8,h9⟩:=h5 hk
 rw[h1,List.getElem?_eq_getElem hy] at h9
 rw[Option.some.inj h9,<- h8]
 exact h7 (hn.trans hk.symm)
theorem Gst.zh8{X Y:Gst}(hl:X.le Y){loc m:Nat}(q:X.at loc m):Y.at loc m:=let⟨v,h⟩:=q;hl.at_ loc m v h
mutual
theorem RV.le{X Y:Gst}(hl:X.le Y):∀ {v:SV} {x:AV},RV X v x->RV Y v x
 |.a _,_,q=>q
 |.u8 _,_,q=>q
 |.ptr ..,_,⟨m,h1,h2⟩=>⟨m,Gst.zh8 hl h1,h2⟩
 |.zea ..,_,q=>⟨q.1,Gst.ze9 hl q.2⟩
 |.zcP _ _ _,_,⟨m,off,ver,lim,cs,h1,h2,h3,⟨lim',h4⟩,h5,h6⟩=>⟨m,off,ver,lim,cs,h1,hl.Φ _ h2,h3,⟨lim',by rw[zax (hl.h _ h2)];exact h4⟩,h5,h6.le hl.h hl.Φ⟩
 |.gs ..,_,q=>⟨q.1,Gst.ze9 hl q.2⟩
 |.sl ..,_,q=>⟨q.1,Gst.ze9 hl q.2⟩
 |.isl _ _,_,q=>RSl.le hl.h hl.Φ q
 |.cl _ _,_,q=>⟨RSl.le hl.h hl.Φ q.1,q.2⟩
 |.ul _ _,_,⟨c,q⟩=>⟨c,RSl.le hl.h hl.Φ q⟩
 |.nsl _ _,_,⟨m,off,ver,c',cs',q1,q0,q2,q3,q4⟩=>⟨m,off,ver,c',cs',q1,q0,hl.Φ _ q2,by rw[zax (hl.h _ q2)];exact q3,q4.le hl.h hl.Φ⟩
 |.lsl _,_,q=>q
 |.zh7 ..,_,q=>⟨q.1,Gst.ze9 hl q.2⟩
 |.zpd ..,_,q=>⟨q.1,Gst.ze9 hl q.2⟩
 |.csl ..,_,⟨m,h1,h2⟩=>⟨m,Gst.zh8 hl h1,h2⟩
 |.map _,_,⟨m,h1,h2⟩=>⟨m,Gst.zh8 hl h1,h2⟩
 |.zoW _ _,_,⟨m,es,h1,h2,h3,h4,h5⟩=>⟨m,es,h1,hl.Φ _ h2,(hl.h _ h2).trans h3,RVs.le hl h4,RVs.le hl h5⟩
 |.fn _ _ _,_,⟨a,b,h1,h2,h3⟩=>⟨a,b,h1,RVs.le hl h2,RVs.le hl h3⟩
 |.ifc _ _,_,⟨v,h1,h2⟩=>⟨v,h1,RV.le hl h2⟩
 |.agg _,_,⟨l,h1,h2⟩=>⟨l,h1,RVs.le hl h2⟩
 |.tup _,_,⟨l,h1,h2⟩=>⟨l,h1,RVs.le hl h2⟩
 |.zdD ..,_,q=>q
 |.yld _,_,⟨m,h1,h2⟩=>⟨m,Gst.zh8 hl h1,h2⟩
 |.top,_,_=>trivial
theorem RVs.le{X Y:Gst}(hl:X.le Y):∀ {v:List SV} {x:List AV},RVs X v x->RVs Y v x
 | [],_,q=>q
 |_::_,_,⟨x,xs,h1,h2,h3⟩=>⟨x,xs,h1,RV.le hl h2,RVs.le hl h3⟩
end
theorem Gst.le_refl{Y:Gst}(h:Y.σ.length=Y.sh.length):Y.le Y:=⟨fun _ _=>rfl,fun _ h=>h,Nat.le_refl _,fun _ _ v h=>⟨v,h⟩,fun _ _ l k md _ h=>⟨l,k,md,h,Nat.le_refl _,fun _=>⟨rfl,rfl⟩⟩,h⟩
theorem Gst.le_trans{a b c:Gst}(p:a.le b)(q:b.le c):a.le c:=
 ⟨fun m h=>(q.h m (p.Φ m h)).trans (p.h m h),fun m h=>q.Φ m (p.Φ m h),Nat.le_trans p.len q.len,fun loc m v h=>let⟨v',h'⟩:=p.at_ loc m v h;q.at_ loc m v' h',fun loc u l k md hl hs=>by
  have hb:b.sh.length > loc:=by have:=p.len;have:=p.shl;have:=q.shl;omega
  obtain⟨l',k',md',h1,h2,h3⟩:=q.seq loc u l k md hb hs
  obtain⟨l2,k2,md2,h4,h5,h6⟩:=p.seq loc u l' k' md' hl h1
  refine⟨l2,k2,md2,h4,Nat.le_trans h5 h2,fun e=>?_⟩
  have e1:k'=k:=Nat.le_antisymm h2 (e ▸ h5)
  obtain⟨h7,h8⟩:=h3 e1
  obtain⟨h9,h10⟩:=h6 (e.trans e1.symm)
  exact⟨h9.trans h7,h8.trans h10⟩,p.shl⟩
section
variable {X:Gst}
theorem RVs.length{l:List SV}{xs:List AV}(q:RVs X l xs):xs.length=l.length:=by
 induction l generalizing xs with
 |nil=>cases q;rfl
 |cons v l ih=>obtain⟨x,t,rfl,_,h⟩:=q;simp [ih h]
theorem RVs.get{l:List SV}{xs:List AV}(q:RVs X l xs){i:Nat}{v:SV}(h:l[i]?=some v):∃ x,xs[i]?=some x/\RV X v x:=by
 induction l generalizing xs i with
 |nil=>simp at h
 |cons w l ih=>
  obtain⟨x,t,rfl,h1,h2⟩:=q
  cases i with
  |zero=>simp at h;subst h;exact⟨x,rfl,h1⟩
  |succ i=>simpa using ih h2 (by simpa using h)
theorem RVs.append{l l':List SV}{xs xs':List AV}(q:RVs X l xs)(q':RVs X l' xs'):RVs X (l++l') (xs++xs'):=by
 induction l generalizing xs with
 |nil=>cases q;exact q'
 |cons v l ih=>obtain⟨x,t,rfl,h1,h2⟩:=q;exact⟨x,t++xs',rfl,h1,ih h2⟩
theorem RVs.take{l:List SV}{xs:List AV}(q:RVs X l xs)(n:Nat):RVs X (l.take n) (xs.take n):=by
 induction l generalizing xs n with
 |nil=>cases q;cases n<;>rfl
 |cons v l ih=>obtain⟨x,t,rfl,h1,h2⟩:=q;cases n with
  |zero=>rfl
  |succ n=>exact⟨x,t.take n,rfl,h1,ih h2 n⟩
theorem RVs.drop{l:List SV}{xs:List AV}(q:RVs X l xs)(n:Nat):RVs X (l.drop n) (xs.drop n):=by
 induction l generalizing xs n with
 |nil=>cases q;cases n<;>rfl
 |cons v l ih=>obtain⟨x,t,rfl,h1,h2⟩:=q;cases n with
  |zero=>exact⟨x,t,rfl,h1,h2⟩
  |succ n=>exact ih h2 n
theorem RVs.set{l:List SV}{xs:List AV}(q:RVs X l xs)(i:Nat){v:SV}{x:AV}(h:RV X v x):RVs X (l.set i v) (xs.set i x):=by
 induction l generalizing xs i with
 |nil=>cases q;cases i<;>rfl
 |cons w l ih=>obtain⟨y,t,rfl,h1,h2⟩:=q;cases i with
  |zero=>exact⟨x,t,rfl,h,h2⟩
  |succ i=>exact⟨y,t.set i x,rfl,h1,ih h2 i⟩
theorem RVs.one{v:SV}{x:AV}(h:RV X v x):RVs X [v] [x]:=⟨x,[],rfl,h,rfl⟩
theorem RV.one{v:SV}{x:AV}(h:RV X v x)(ho:v.one=true):x.one=true:=by
 cases v with
 |a w=>cases(show x=w from h);exact ho
 |u8 b=>cases(show x=_ from h);rfl
 |ptr=>obtain⟨m,_,rfl⟩:=h;rfl
 |zcP=>obtain⟨m,off,ver,lim,cs,rfl,_⟩:=h;rfl
 |isl u l=>rcases h with⟨_,rfl⟩|⟨m,off,ver,c',cs,rfl,_⟩<;>rfl
 |cl u l=>rcases h.1 with⟨_,rfl⟩|⟨m,off,ver,c',cs,rfl,_⟩<;>rfl
 |ul u l=>obtain⟨c,h⟩:=h;rcases h with⟨_,rfl⟩|⟨m,off,ver,c',cs,rfl,_⟩<;>rfl
 |nsl u l=>obtain⟨m,off,ver,c',cs,rfl,_⟩:=h;rfl
 |lsl n=>rcases h with⟨_,rfl⟩|⟨m,off,sz,ver,c,rfl⟩<;>rfl
 |csl=>obtain⟨m,_,rfl⟩:=h;rfl
 |map=>obtain⟨m,_,rfl⟩:=h;rfl
 |zoW=>obtain⟨m,es,rfl,_⟩:=h;rfl
 |fn=>obtain⟨a,b,rfl,_⟩:=h;rfl
 |ifc=>obtain⟨a,rfl,_⟩:=h;rfl
 |zdD=>cases(show x=_ from h);rfl
 |yld=>obtain⟨m,_,rfl⟩:=h;rfl
 |agg=>cases ho
 |tup=>cases ho
 |top=>cases ho
 |zea=>exact h.1
 |gs=>exact h.1
 |zh7=>exact h.1
 |zpd=>exact h.1
 |sl=>exact h.1
theorem RV.cells{v:SV}{x:AV}(h:RV X v x)(ho:v.one=true\/∃ l,v=.agg l):RVs X v.cells x.cells:=by
 rcases ho with ho|⟨l,rfl⟩
 ·have h1:=h.one ho
  have e1:v.cells=[v]:=by cases v<;>first|rfl|cases ho
  have e2:x.cells=[x]:=by cases x<;>first|rfl|cases h1
  rw[e1,e2];exact .one h
 ·obtain⟨l',rfl,h2⟩:=h;exact h2
end
def take(u:U)(v:SV)(h:SH):Option (List (El u)×SH):=match v with
 |.a .qj=>some ([],h)
 |.isl u' l=>(qX u' u l).map (·,h)
 |.gs loc n=>match h[loc]? with
  |some (.seq u' l m md)=>match Nat.beq m n with
   |true=>(qX u' u l).map (·,h.set loc (.seq u' l m 2))
   |false=>none
  |_=>none
 |.sl loc n off len false=>match h[loc]? with
  |some (.seq u' l m md)=>match Nat.beq m n with
   |true=>(qX u' u (slice l off (off+len))).map (·,h.set loc (.seq u' l m 2))
   |false=>none
  |_=>none
 |_=>none
def zlh(u:U)(v:SV):Option (List (El u)):=match v with
 |.a .qj=>some []
 |.isl u' l=>qX u' u l
 |.cl u' l=>qX u' u l
 |.ul u' l=>qX u' u l
 |_=>none
def dec:(u:U)->List SV->SH->Option (El u×List SV×SH)
 |.bool,.a (.bool b)::r,h=>some (b,r,h)
 |.int k,.a (.int k' n)::r,h=>if k=k' then some (n,r,h) else none
 |.u8,.u8 b::r,h=>some (b,r,h)
 |.str,.a (.str l)::r,h=>some (l,r,h)
 |.sl u,v::r,h=>match take u v h with
  |some (l,h')=>some (l,r,h')
  |none=>none
 |.slc u,v::r,h=>match zlh u v with
  |some l=>some (l,r,h)
  |none=>none
 |.pair u v,r,h=>match dec u r h with
  |some (x,r1,h1)=>match dec v r1 h1 with
   |some (y,r2,h2)=>some ((x,y),r2,h2)
   |none=>none
  |none=>none
 |.unit,r,h=>some ((),r,h)
 |_,_,_=>none
def zoV(u:U):Nat->List SV->SH->Option (List (El u)×SH)
 |0,[],h=>some ([],h)
 |k+1,r,h=>match dec u r h with
  |some (x,r1,h1)=>match zoV u k r1 h1 with
   |some (l,h2)=>some (x::l,h2)
   |none=>none
  |none=>none
 |_,_,_=>none
def jD(f:TypeId->Option U):List Field->Option U
 | []=>some .unit
 | [x]=>match x.name == "_" with
  |true=>none
  |false=>f x.type
 |x::l=>match x.name == "_",f x.type,jD f l with
  |false,some u,some v=>some (.pair u v)
  |_,_,_=>none
def uOf(P:Program):Nat->TypeId->Option U
 |0,_=>none
 |d+1,t=>match P.underlying t with
  |some .bool=>some .bool
  |some (.int .u8)=>some .u8
  |some (.int k)=>some (.int k)
  |some .string=>some .str
  |some (.slice e)=>(uOf P d e).map .sl
  |some (.struct fs)=>jD (uOf P d) fs.toList
  |_=>none
def ofA:AV->Option SV
 |.int .u8 n=>if 0<=n/\n<256 then some (.u8 (UInt8.ofNat n.toNat)) else none
 |.int k n=>some (.a (.int k n))
 |.bool b=>some (.a (.bool b))
 |.str l=>some (.a (.str l))
 |.zbf=>some (.a .zbf)
 |.qj=>some (.a .qj)
 |.zcd=>some (.a .zcd)
 |.zeX=>some (.a .zeX)
 |.xQ=>some (.a .xQ)
 |.opq=>some (.a .opq)
 |.fn f [] []=>some (.fn f [] [])
 |.tup []=>some (.tup [])
 |_=>none
def zng:List AV->Option (List SV)
 | []=>some []
 |x::l=>match ofA x,zng l with
  |some v,some vs=>some (v::vs)
  |_,_=>none
def zqw:AV->Option SV
 |.agg l=>(zng l).map .agg
 |.ifc t (.agg l)=>(zng l).map fun x=>.ifc t (.agg x)
 |.ifc t v=>(ofA v).map (.ifc t)
 |v=>ofA v
def toA:SV->Option AV
 |.a v=>some v
 |.u8 b=>some (.int .u8 (b.toNat:Int))
 |_=>none
def zqo:List SV->Option (List AV)
 | []=>some []
 |x::l=>match toA x,zqo l with
  |some v,some vs=>some (v::vs)
  |_,_=>none
def zqC:SV->Option AV
 |.agg l=>(zqo l).map .agg
 |v=>toA v
section
variable {X:Gst}
theorem zaY{x:AV}{v:SV}(h:ofA x=some v):RV X v x:=by
 unfold ofA at h
 split at h
 ·split at h
  ·cases h
   rename_i n hn
   show _=_
   congr 1
   rw[UInt8.toNat_ofNat_of_lt' (by simp;omega)]
   omega
  ·cases h
 all_goals (first|(cases h;rfl)|(cases h;exact⟨_,_,rfl,rfl,rfl⟩)|(cases h;exact⟨_,rfl,rfl⟩)|cases h)
theorem zbx{l:List AV}{vs:List SV}(h:zng l=some vs):RVs X vs l:=by
 induction l generalizing vs with
 |nil=>cases h;rfl
 |cons x l ih=>
  unfold zng at h
  split at h
  ·cases h;exact⟨x,l,rfl,zaY (by assumption),ih (by assumption)⟩
  ·cases h
theorem zdO{x:AV}{v:SV}(h:zqw x=some v):RV X v x:=by
 unfold zqw at h
 split at h
 ·cases e:zng _ with
  |none=>rw[e] at h;cases h
  |some vs=>rw[e] at h;cases h;exact⟨_,rfl,zbx e⟩
 ·cases e:zng _ with
  |none=>rw[e] at h;cases h
  |some vs=>rw[e] at h;cases h;exact⟨_,rfl,_,rfl,zbx e⟩
 ·cases e:ofA _ with
  |none=>rw[e] at h;cases h
  |some vs=>rw[e] at h;cases h;exact⟨_,rfl,zaY e⟩
 ·exact zaY h
theorem zf6{v:SV}{x w:AV}(h:toA v=some w)(q:RV X v x):x=w:=by
 unfold toA at h
 split at h
 ·cases h;exact q
 ·cases h;exact q
 ·cases h
theorem zi2{vs:List SV}{xs ws:List AV}(h:zqo vs=some ws)(q:RVs X vs xs):xs=ws:=by
 induction vs generalizing xs ws with
 |nil=>cases h;exact q
 |cons v vs ih=>
  obtain⟨x,t,rfl,q1,q2⟩:=q
  unfold zqo at h
  split at h
  ·cases h;rw[zf6 (by assumption) q1,ih (by assumption) q2]
  ·cases h
theorem zdZ{v:SV}{x w:AV}(h:zqC v=some w)(q:RV X v x):x=w:=by
 unfold zqC at h
 split at h
 ·obtain⟨l',rfl,q⟩:=q
  cases e:zqo _ with
  |none=>rw[e] at h;cases h
  |some ws=>rw[e] at h;cases h;rw[zi2 e q]
 ·exact zf6 h q
theorem wu:∀ {u:U} {x:El u} {cs:List AV},RE X.h X.Φ u x cs->RVs X (enc u x) cs
 |.bool,_,_,q=>⟨_,_,q,rfl,rfl⟩
 |.int _,_,_,q=>⟨_,_,q,rfl,rfl⟩
 |.u8,_,_,q=>⟨_,_,q,rfl,rfl⟩
 |.str,_,_,q=>⟨_,_,q,rfl,rfl⟩
 |.sl u,l,cs,q=>let⟨x,e,h⟩:=znB.1 q;⟨x,[],e,h,rfl⟩
 |.slc u,l,cs,q=>let⟨x,e,h⟩:=zhw.1 q;⟨x,[],e,h,rfl⟩
 |.pair _ _,_,_,⟨c1,c2,e,q1,q2⟩=>e ▸ (wu q1).append (wu q2)
 |.unit,_,_,q=>q
theorem RE.length{h:za}{Φ:Nat->Prop}:∀ {u:U} {x:El u} {cs:List AV},RE h Φ u x cs->cs.length=u.sz
 |.bool,_,_,q=>by cases(show _=_ from q);rfl
 |.int _,_,_,q=>by cases(show _=_ from q);rfl
 |.u8,_,_,q=>by cases(show _=_ from q);rfl
 |.str,_,_,q=>by cases(show _=_ from q);rfl
 |.sl _,_,_,⟨x,e,_⟩=>by rw[e];rfl
 |.slc _,_,_,⟨x,e,_⟩=>by rw[e];rfl
 |.pair _ _,_,_,⟨c1,c2,e,q1,q2⟩=>by rw[e,List.length_append,q1.length,q2.length];rfl
 |.unit,_,_,q=>by cases(show _=_ from q);rfl
theorem RE.one{h:za}{Φ:Nat->Prop}:∀ {u:U} {x:El u} {cs:List AV},RE h Φ u x cs->cs.all AV.one=true
 |.bool,_,_,q=>by cases(show _=_ from q);rfl
 |.int _,_,_,q=>by cases(show _=_ from q);rfl
 |.u8,_,_,q=>by cases(show _=_ from q);rfl
 |.str,_,_,q=>by cases(show _=_ from q);rfl
 |.sl _,_,_,⟨x,e,q⟩=>by rw[e];rcases q with⟨_,rfl⟩|⟨m,off,ver,c',cs,rfl,_⟩<;>rfl
 |.slc _,_,_,⟨x,e,c,q⟩=>by rw[e];rcases q with⟨_,rfl⟩|⟨m,off,ver,c',cs,rfl,_⟩<;>rfl
 |.pair _ _,_,_,⟨c1,c2,e,q1,q2⟩=>by rw[e,List.all_append,q1.one,q2.one];rfl
 |.unit,_,_,q=>by cases(show _=_ from q);rfl
end
def SB.md:SB->Nat
 |.cells _ m _=>m
 |.seq _ _ _ m=>m
 |.map _ _ m=>m
 |.kv _ _ _ m=>m
 |.loop _ _ m=>m
 |.zbm _ _ _ m=>m
 |.mit _ _ m=>m
 |.gone=>1
def mkS(n:Nat):Option TypeId:=match Nat.blt n 4294967296 with
 |true=>match n/65536 with
  |0=>none
  |k+1=>some k
 |false=>none
def mkB:Option TypeId->Option TypeId->Bool
 |none,_=>true
 |some a,some b=>Nat.beq a b
 |_,_=>false
theorem zkc{a b:Option TypeId}(h:mkB a b=true)(t:Option TypeId):∃ t',b.or t=a.or t':=by
 cases a with
 |none=>exact⟨b.or t,rfl⟩
 |some x=>cases b with
  |none=>cases h
  |some y=>cases Nat.eq_of_beq_eq_true h;exact⟨none,rfl⟩
theorem zke{n:Nat}(h:Nat.blt n 65536=true):mkS n=none:=by
 have h1:n/65536=0:=Nat.div_eq_of_lt (by simpa [Nat.blt_eq] using h)
 unfold mkS;rw[h1];cases Nat.blt n 4294967296<;>rfl
def mk0(u:U)(e:TypeId):Nat:=match u with
 |.u8=>match Nat.blt e 65535 with
  |true=>(e+1)*65536
  |false=>0
 |_=>0
theorem zps(u:U)(e:TypeId):(mkS (mk0 u e)).or (some e)=some e:=by
 have z:(mkS 0).or (some e)=some e:=by rw[zke rfl];rfl
 cases u<;>first|exact z|skip
 unfold mk0
 simp only
 split
 ·rename_i h
  have h2:e<65535:=by simpa [Nat.blt_eq] using h
  have h1:(e+1)*65536/65536=e+1:=Nat.mul_div_cancel _ (by decide)
  unfold mkS;rw[h1];cases Nat.blt ((e+1)*65536) 4294967296<;>rfl
 ·exact z
def mkA(n:Nat)(e:TypeId):Bool:=mkB (mkS (n+1)) (some e)&&mkB (mkS (n+1)) (mkS n)
theorem zpt{n:Nat}{e:TypeId}(h:mkA n e=true)(t:Option TypeId):∃ t',(if(mkS n).or t=some e then(mkS n).or t else none)=(mkS (n+1)).or t':=by
 unfold mkA at h
 rw[Bool.and_eq_true] at h
 cases h1:mkS (n+1) with
 |none=>exact⟨_,rfl⟩
 |some a=>
  rw[h1] at h
  obtain rfl:=Nat.eq_of_beq_eq_true (show Nat.beq a e=true from h.1)
  cases h2:mkS n with
  |none=>rw[h2] at h;cases h.2
  |some b=>
   rw[h2] at h
   obtain rfl:=Nat.eq_of_beq_eq_true (show Nat.beq a b=true from h.2)
   exact⟨none,by simp⟩
theorem zod{n:Nat}{e:TypeId}(h:mkA n e=true):(mkS (n+1)).or (some e)=some e:=by
 unfold mkA at h
 rw[Bool.and_eq_true] at h
 cases h1:mkS (n+1) with
 |none=>rfl
 |some a=>rw[h1] at h;cases Nat.eq_of_beq_eq_true (show Nat.beq a e=true from h.1);rfl
class qE where
 at_:Nat->Option (Array Tmp×Code×Code)
variable [qE]
def RB(X:Gst):SB->Option (Nat×Nat)->Prop
 |.cells l _ mk,o=>∃ m l' tt,o=some (m,0)/\X.h[m]?=some (.row l' 0 0 0 false (mk.or tt))/\RVs X l l'
 |.seq u l k md,none=>l=[]
 |.seq u l k md,some (m,ver)=>∃ cells minv tt,X.h[m]?=some (.row cells ver minv 0 false ((mkS k).or tt))/\minv<=ver/\RCs X.h X.Φ u l cells/\(md=2->X.Φ m)
 |.map ks vs _,o=>∃ m es,o=some (m,0)/\X.h[m]?=some (.map es)/\RVs X ks (es.map (·.1))/\RVs X vs (es.map (·.2))
 |.kv u v l _,o=>∃ m es,o=some (m,0)/\X.h[m]?=some (.map es)/\RVs X (kvK u v l) (es.map (·.1))/\RVs X (kvV u v l) (es.map (·.2))
 |.loop env id _,o=>∃ m env' ps asg body,o=some (m,0)/\qE.at_ id=some (ps,asg,body)/\X.h[m]?=some (.loop env' ps asg body .ready none)/\RVs X env env'.toL
 |.zbm k v it _,o=>∃ m k' v' mi,o=some (m,0)/\X.at it mi/\X.h[m]?=some (.zbm k' v' mi)/\RV X k k'/\RV X v v'
 |.mit l s _,o=>∃ m ml,o=some (m,0)/\X.at l ml/\X.h[m]?=some (.mit ml s)
 |.gone,_=>True
structure RH(X:Gst):Prop where
 len:X.σ.length=X.sh.length
 inj:∀ (i j m v v':Nat),X.σ[i]?=some (some (m,v))->X.σ[j]?=some (some (m,v'))->i=j
 lt:∀ (i m v:Nat),X.σ[i]?=some (some (m,v))->m<X.h.length
 Φlt:∀ m,X.Φ m->m<X.h.length
 blk:∀ (i:Nat) (b:SB) (o:Option (Nat×Nat)),X.sh[i]?=some b->X.σ[i]?=some o->RB X b o
 own:∀ (i m v:Nat) (b:SB),X.sh[i]?=some b->X.σ[i]?=some (some (m,v))->X.Φ m->b.md=2\/b=.gone
structure Fm(X Y:Gst):Prop where
 len:X.h.length<=Y.h.length
 h:∀ m,m<X.h.length->(∀ (i v:Nat) (b:SB),X.sh[i]?=some b->X.σ[i]?=some (some (m,v))->b.md≠0)->Y.h[m]?=X.h[m]?
 md:∀ (i:Nat) (b:SB),X.sh[i]?=some b->b.md≠0->∃ b',Y.sh[i]?=some b'/\b'.md≠0
 new:∀ (i m v:Nat),Y.σ[i]?=some (some (m,v))->m<X.h.length->∃ v',X.σ[i]?=some (some (m,v'))
 gone:∀ (i:Nat),X.sh[i]?=some .gone->Y.sh[i]?=some .gone/\Y.σ[i]?=X.σ[i]?
 phi:∀ m,m<X.h.length->Y.Φ m->X.Φ m\/∃ (i v:Nat) (b:SB),X.sh[i]?=some b/\X.σ[i]?=some (some (m,v))/\b≠.gone
structure Stp(X Y:Gst):Prop where
 le:X.le Y
 hr:RH Y
 fm:Fm X Y
theorem Fm.trans{a b c:Gst}(ha:a.le b)(p:Fm a b)(q:Fm b c)(hl:a.σ.length=a.sh.length):Fm a c:=by
 refine⟨Nat.le_trans p.len q.len,fun m hm hx=>?_,fun i b hb hm=>?_,fun i m v h hm=>?_,fun i h=>⟨(q.gone i (p.gone i h).1).1,(q.gone i (p.gone i h).1).2.trans (p.gone i h).2⟩,fun m hm hΦ=>?_⟩
 ·rw[<- p.h m hm hx]
  refine q.h m (Nat.lt_of_lt_of_le hm p.len) fun i v b' hb' hs=>?_
  obtain⟨v',hv'⟩:=p.new i m v hs hm
  have hi:i<a.sh.length:=by rw[<- hl];exact(List.getElem?_eq_some_iff.1 hv').1
  have hb0:=hx i v' a.sh[i] (List.getElem?_eq_getElem hi) hv'
  obtain⟨b2,h1,h2⟩:=p.md i _ (List.getElem?_eq_getElem hi) hb0
  rw[hb'] at h1;cases h1;exact h2
 ·obtain⟨b2,h1,h2⟩:=p.md i b hb hm
  exact q.md i b2 h1 h2
 ·obtain⟨v',hv'⟩:=q.new i m v h (Nat.lt_of_lt_of_le hm p.len)
  exact p.new i m v' hv' hm
 ·rcases q.phi m (Nat.lt_of_lt_of_le hm p.len) hΦ with h|⟨i,v,b',h1,h2,h3⟩
  ·exact p.phi m hm h
  ·obtain⟨v',hv'⟩:=p.new i m v h2 hm
   have hi:i<a.sh.length:=by rw[<- hl];exact(List.getElem?_eq_some_iff.1 hv').1
   refine .inr ⟨i,v',a.sh[i],List.getElem?_eq_getElem hi,hv',fun e=>?_⟩
   have:=(p.gone i (by rw[List.getElem?_eq_getElem hi,e])).1
   rw[h1] at this;cases this;exact h3 rfl
theorem Stp.trans{a b c:Gst}(p:Stp a b)(q:Stp b c):Stp a c:=⟨Gst.le_trans p.le q.le,q.hr,p.fm.trans p.le q.fm p.le.shl⟩
theorem Stp.refl{a:Gst}(h:RH a):Stp a a:=⟨Gst.le_refl h.len,h,Nat.le_refl _,fun _ _ _=>rfl,fun i b hb hm=>⟨b,hb,hm⟩,fun i m v h _=>⟨v,h⟩,fun _ h=>⟨h,rfl⟩,fun _ _ h=>.inl h⟩
theorem RB.le{X Y:Gst}(hl:X.le Y){b:SB}{o:Option (Nat×Nat)}(h:RB X b o)(hh:∀ m v,o=some (m,v)->Y.h[m]?=X.h[m]?):RB Y b o:=by
 cases b with
 |cells l md mk=>obtain⟨m,l',tt,rfl,h1,h2⟩:=h;exact⟨m,l',tt,rfl,(hh _ _ rfl).trans h1,h2.le hl⟩
 |seq u l k md=>
  cases o with
  |none=>exact h
  |some p=>obtain⟨m,ver⟩:=p;obtain⟨cells,minv,tt,h1,h2,h3,h4⟩:=h;exact⟨cells,minv,tt,(hh _ _ rfl).trans h1,h2,h3.le hl.h hl.Φ,fun e=>hl.Φ _ (h4 e)⟩
 |map ks vs md=>obtain⟨m,es,rfl,h1,h2,h3⟩:=h;exact⟨m,es,rfl,(hh _ _ rfl).trans h1,h2.le hl,h3.le hl⟩
 |kv u v l md=>obtain⟨m,es,rfl,h1,h2,h3⟩:=h;exact⟨m,es,rfl,(hh _ _ rfl).trans h1,h2.le hl,h3.le hl⟩
 |loop env id md=>obtain⟨m,env',ps,asg,body,rfl,h1,h2,h3⟩:=h;exact⟨m,env',ps,asg,body,rfl,h1,(hh _ _ rfl).trans h2,h3.le hl⟩
 |zbm k v it md=>obtain⟨m,k',v',mi,rfl,h1,h2,h3,h4⟩:=h;exact⟨m,k',v',mi,rfl,Gst.zh8 hl h1,(hh _ _ rfl).trans h2,h3.le hl,h4.le hl⟩
 |mit l s md=>obtain⟨m,ml,rfl,h1,h2⟩:=h;exact⟨m,ml,rfl,Gst.zh8 hl h1,(hh _ _ rfl).trans h2⟩
 |gone=>trivial
theorem zC{α:Type}{l:List α}{x y:α}{j:Nat}(h:(l++[x])[j]?=some y):l[j]?=some y\/(j=l.length/\x=y):=by
 rw[List.getElem?_append] at h
 split at h
 ·exact .inl h
 ·rename_i hl
  cases he:j-l.length with
  |zero=>rw[he] at h;simp at h;exact .inr ⟨by omega,h⟩
  |succ n=>rw[he] at h;simp at h
theorem zw{α:Type}{l:List α}{x y:α}{i j:Nat}(h:(l.set i x)[j]?=some y):(j=i/\x=y)\/(j≠i/\l[j]?=some y):=by
 by_cases e:j=i
 ·subst e
  have hl:=(List.getElem?_eq_some_iff.1 h).1
  rw[List.length_set] at hl
  rw[List.getElem?_set_self hl] at h
  exact .inl ⟨rfl,Option.some.inj h⟩
 ·rw[List.getElem?_set_ne (Ne.symm e)] at h;exact .inr ⟨e,h⟩
theorem Stp.push{X:Gst}(hr:RH X){b:SB}{blk:Blk}(hmd:b.md≠2)
  (hB:X.le ⟨X.h++[blk],X.Φ,X.σ++[some (X.h.length,0)],X.sh++[b]⟩->RB ⟨X.h++[blk],X.Φ,X.σ++[some (X.h.length,0)],X.sh++[b]⟩ b (some (X.h.length,0))):
  Stp X ⟨X.h++[blk],X.Φ,X.σ++[some (X.h.length,0)],X.sh++[b]⟩:=by
 have hh:∀ m,m<X.h.length->(X.h++[blk])[m]?=X.h[m]?:=fun m hm=>Arr.zO hm
 have hσ:∀ (i:Nat),i<X.σ.length->(X.σ++[some (X.h.length,0)])[i]?=X.σ[i]?:=fun i hi=>List.getElem?_append_left hi
 have hle:X.le ⟨X.h++[blk],X.Φ,X.σ++[some (X.h.length,0)],X.sh++[b]⟩:=by
  refine⟨fun m hm=>hh m (hr.Φlt m hm),fun _ h=>h,by simp,fun loc m v h=>⟨v,?_⟩,fun loc u l k md hl hs=>?_,hr.len⟩
  ·rw[hσ _ (List.getElem?_eq_some_iff.1 h).1];exact h
  ·dsimp only at hs
   rw[List.getElem?_append_left hl] at hs
   exact⟨l,k,md,hs,Nat.le_refl _,fun _=>⟨rfl,hσ _ (by rw[hr.len];exact hl)⟩⟩
 refine⟨hle,⟨by simp [hr.len],fun i j m v v' h1 h2=>?_,fun i m v h1=>?_,fun m hm=>?_,fun i b' o h1 h2=>?_,fun i m v b' h1 h2 h3=>?_⟩,⟨?_,fun m hm _=>hh m hm,fun i b' hb hm=>⟨b',?_,hm⟩,fun i m v h1 hm=>?_,fun i h=>⟨(List.getElem?_append_left (List.getElem?_eq_some_iff.1 h).1).trans h,hσ _ (by rw[hr.len];exact(List.getElem?_eq_some_iff.1 h).1)⟩,fun _ _ h=>.inl h⟩⟩
 ·rcases zC h1 with q1|⟨e1,q1⟩<;>rcases zC h2 with q2|⟨e2,q2⟩
  ·exact hr.inj _ _ _ _ _ q1 q2
  ·cases q2;exact absurd (hr.lt _ _ _ q1) (Nat.lt_irrefl _)
  ·cases q1;exact absurd (hr.lt _ _ _ q2) (Nat.lt_irrefl _)
  ·exact e1.trans e2.symm
 ·show m<(X.h++[blk]).length
  rw[Arr.zv]
  rcases zC h1 with h1|⟨_,h1⟩
  ·have:=hr.lt _ _ _ h1;simp;omega
  ·cases h1;simp
 ·show m<(X.h++[blk]).length
  have:=hr.Φlt m hm;rw[Arr.zv];simp;omega
 ·rcases zC h1 with h1|⟨rfl,rfl⟩
  ·have hi:=(List.getElem?_eq_some_iff.1 h1).1
   dsimp only at h2
   rw[hσ _ (by rw[hr.len];exact hi)] at h2
   exact(hr.blk i b' o h1 h2).le hle fun m v e=>hh m (hr.lt i m v (e ▸ h2))
  ·dsimp only at h2
   rw[<- hr.len,List.getElem?_append_right (Nat.le_refl _)] at h2
   simp at h2;subst h2;exact hB hle
 ·rcases zC h1 with h1|⟨rfl,rfl⟩
  ·have hi:=(List.getElem?_eq_some_iff.1 h1).1
   dsimp only at h2
   rw[hσ _ (by rw[hr.len];exact hi)] at h2
   exact hr.own i m v b' h1 h2 h3
  ·dsimp only at h2
   rw[<- hr.len,List.getElem?_append_right (Nat.le_refl _)] at h2
   simp at h2
   obtain⟨rfl,rfl⟩:=h2
   exact absurd (hr.Φlt _ h3) (Nat.lt_irrefl _)
 ·show _<=(X.h++[blk]).length
  rw[Arr.zv];omega
 ·show(X.sh++[b])[i]?=_
  rw[List.getElem?_append_left (List.getElem?_eq_some_iff.1 hb).1];exact hb
 ·rcases zC h1 with q1|⟨_,q1⟩
  ·exact⟨v,q1⟩
  ·cases q1;exact absurd hm (Nat.lt_irrefl _)
theorem Stp.zpH{X:Gst}(hr:RH X){b:SB}(hmd:b.md≠2)(hB:∀ Y,RB Y b none):Stp X ⟨X.h,X.Φ,X.σ++[none],X.sh++[b]⟩:=by
 have hσ:∀ (i:Nat),i<X.σ.length->(X.σ++[none])[i]?=X.σ[i]?:=fun i hi=>List.getElem?_append_left hi
 have hle:X.le ⟨X.h,X.Φ,X.σ++[none],X.sh++[b]⟩:=by
  refine⟨fun m hm=>rfl,fun _ h=>h,by simp,fun loc m v h=>⟨v,?_⟩,fun loc u l k md hl hs=>?_,hr.len⟩
  ·rw[hσ _ (List.getElem?_eq_some_iff.1 h).1];exact h
  ·dsimp only at hs
   rw[List.getElem?_append_left hl] at hs
   exact⟨l,k,md,hs,Nat.le_refl _,fun _=>⟨rfl,hσ _ (by rw[hr.len];exact hl)⟩⟩
 refine⟨hle,⟨by simp [hr.len],fun i j m v v' h1 h2=>?_,fun i m v h1=>?_,hr.Φlt,fun i b' o h1 h2=>?_,fun i m v b' h1 h2 h3=>?_⟩,⟨Nat.le_refl _,fun m hm _=>rfl,fun i b' hb hm=>⟨b',?_,hm⟩,fun i m v h1 hm=>?_,fun i h=>⟨(List.getElem?_append_left (List.getElem?_eq_some_iff.1 h).1).trans h,hσ _ (by rw[hr.len];exact(List.getElem?_eq_some_iff.1 h).1)⟩,fun _ _ h=>.inl h⟩⟩
 ·rcases zC h1 with q1|⟨e1,q1⟩<;>rcases zC h2 with q2|⟨e2,q2⟩
  ·exact hr.inj _ _ _ _ _ q1 q2
  ·cases q2
  ·cases q1
  ·exact e1.trans e2.symm
 ·rcases zC h1 with h1|⟨_,h1⟩
  ·exact hr.lt _ _ _ h1
  ·cases h1
 ·rcases zC h1 with h1|⟨rfl,rfl⟩
  ·have hi:=(List.getElem?_eq_some_iff.1 h1).1
   dsimp only at h2
   rw[hσ _ (by rw[hr.len];exact hi)] at h2
   exact(hr.blk i b' o h1 h2).le hle fun m v e=>rfl
  ·dsimp only at h2
   rw[<- hr.len,List.getElem?_append_right (Nat.le_refl _)] at h2
   simp at h2;subst h2;exact hB _
 ·rcases zC h1 with h1|⟨rfl,rfl⟩
  ·have hi:=(List.getElem?_eq_some_iff.1 h1).1
   dsimp only at h2
   rw[hσ _ (by rw[hr.len];exact hi)] at h2
   exact hr.own i m v b' h1 h2 h3
  ·dsimp only at h2
   rw[<- hr.len,List.getElem?_append_right (Nat.le_refl _)] at h2
   simp at h2
 ·show(X.sh++[b])[i]?=_
  rw[List.getElem?_append_left (List.getElem?_eq_some_iff.1 hb).1];exact hb
 ·rcases zC h1 with q1|⟨_,q1⟩
  ·exact⟨v,q1⟩
  ·cases q1
theorem Stp.turn{X Y:Gst}(hr:RH X){i:Nat}{b b':SB}{o o':Option (Nat×Nat)}(hb:X.sh[i]?=some b)(ho:X.σ[i]?=some o)(hng:b≠.gone)
  (hh:∀ m,m<X.h.length->(∀ v,o≠some (m,v))->Y.h[m]?=X.h[m]?) (hown:∀ m v,o=some (m,v)->Y.h[m]?=X.h[m]? \/ b.md=0) (hlen:X.h.length<=Y.h.length)
  (hΦ:∀ m,Y.Φ m↔X.Φ m\/(b'.md=2/\∃ v,o'=some (m,v))) (hσ:Y.σ=X.σ.set i o') (hs:Y.sh=X.sh.set i b')
  (ho':∀ m v,o'=some (m,v)->m<Y.h.length/\((∃ v0,o=some (m,v0))\/(o=none/\X.h.length<=m))) (ho1:∀ m v,o=some (m,v)->∃ v',o'=some (m,v'))
  (hseq:∀ u l k md,b'=.seq u l k md->∃ l' k' md',b=.seq u l' k' md'/\k'<=k/\(k'=k->l'.length=l.length/\o'=o))
  (hm0:b.md≠0->b'.md≠0) (hm2:b.md=2\/b=.gone->b'.md=2\/b'=.gone) (hB:X.le Y->RB Y b' o'):Stp X Y:=by
 have hi:=(List.getElem?_eq_some_iff.1 hb).1
 have hΦh:∀ m,X.Φ m->Y.h[m]?=X.h[m]?:=fun m hm=>by
  by_cases e:∃ v,o=some (m,v)
  ·obtain⟨v,e⟩:=e
   rcases hown m v e with h|h
   ·exact h
   ·rcases hr.own i m v b hb (e ▸ ho) hm with h2|rfl
    ·omega
    ·cases h
  ·exact hh m (hr.Φlt m hm) fun v h=>e ⟨v,h⟩
 have hle:X.le Y:=by
  refine⟨hΦh,fun m hm=>(hΦ m).2 (.inl hm),by rw[hσ];simp,fun loc m v h=>?_,fun loc u l k md hl h=>?_,hr.len⟩
  ·rw[hσ]
   by_cases e:loc=i
   ·subst e
    rw[ho] at h
    obtain⟨v',e2⟩:=ho1 m v (Option.some.inj h)
    exact⟨v',by rw[List.getElem?_set_self (by rw[hr.len];exact hi),e2]⟩
   ·exact⟨v,by rw[List.getElem?_set_ne (Ne.symm e)];exact h⟩
  ·rw[hs] at h
   rcases zw h with⟨rfl,e⟩|⟨e,h⟩
   ·obtain⟨l',k',md',h1,h2,h3⟩:=hseq u l k md e
    exact⟨l',k',md',by rw[hb,h1],h2,fun e=>⟨(h3 e).1,by rw[hσ,List.getElem?_set_self (by rw[hr.len];exact hi),ho,(h3 e).2]⟩⟩
   ·exact⟨l,k,md,h,Nat.le_refl _,fun _=>⟨rfl,by rw[hσ,List.getElem?_set_ne (Ne.symm e)]⟩⟩
 refine⟨hle,⟨by rw[hσ,hs];simp [hr.len],fun i1 j m v v' h1 h2=>?_,fun j m v h1=>?_,fun m hm=>?_,fun j b2 o2 h1 h2=>?_,fun j m v b2 h1 h2 h3=>?_⟩,⟨hlen,fun m hm hx=>?_,fun j b2 hb2 hm=>?_,fun j m v h1 hm=>?_,fun j h=>?_,fun m hm h=>?_⟩⟩
 ·have key:∀ (j:Nat) m v,Y.σ[j]?=some (some (m,v))->(∃ v',X.σ[j]?=some (some (m,v')))\/(j=i/\X.h.length<=m):=fun j m v h=>by
   rw[hσ] at h
   rcases zw h with⟨rfl,e⟩|⟨e,h⟩
   ·rcases(ho' m v e).2 with⟨v0,e2⟩|⟨_,e2⟩
    ·exact .inl ⟨v0,by rw[ho,e2]⟩
    ·exact .inr ⟨rfl,e2⟩
   ·exact .inl ⟨v,h⟩
  rcases key _ _ _ h1 with⟨v1,k1⟩|⟨rfl,k1⟩<;>rcases key _ _ _ h2 with⟨v2,k2⟩|⟨rfl,k2⟩
  ·exact hr.inj _ _ _ _ _ k1 k2
  ·have:=hr.lt _ _ _ k1;omega
  ·have:=hr.lt _ _ _ k2;omega
  ·rfl
 ·rw[hσ] at h1
  rcases zw h1 with⟨rfl,e⟩|⟨e,h⟩
  ·exact(ho' m v e).1
  ·exact Nat.lt_of_lt_of_le (hr.lt _ _ _ h) hlen
 ·rcases(hΦ m).1 hm with h|⟨_,v,e⟩
  ·exact Nat.lt_of_lt_of_le (hr.Φlt m h) hlen
  ·exact(ho' m v e).1
 ·rw[hs] at h1
  rw[hσ] at h2
  rcases zw h1 with⟨rfl,rfl⟩|⟨e,h1⟩
  ·rw[List.getElem?_set_self (by rw[hr.len];exact hi)] at h2
   cases h2;exact hB hle
  ·rw[List.getElem?_set_ne (Ne.symm e)] at h2
   refine(hr.blk j b2 o2 h1 h2).le hle fun m v e2=>?_
   subst e2
   exact hh m (hr.lt _ _ _ h2) fun v' e3=>e (hr.inj _ _ _ _ _ h2 (e3 ▸ ho))
 ·rw[hs] at h1
  rw[hσ] at h2
  rcases zw h1 with⟨rfl,rfl⟩|⟨e,h1⟩
  ·rw[List.getElem?_set_self (by rw[hr.len];exact hi)] at h2
   rcases(hΦ m).1 h3 with h|⟨h,_⟩
   ·rcases(ho' m v (Option.some.inj h2)).2 with⟨v0,e2⟩|⟨_,e2⟩
    ·exact hm2 (hr.own j m v0 b hb (e2 ▸ ho) h)
    ·have:=hr.Φlt m h;omega
   ·exact .inl h
  ·rw[List.getElem?_set_ne (Ne.symm e)] at h2
   rcases(hΦ m).1 h3 with h|⟨_,v',e2⟩
   ·exact hr.own j m v b2 h1 h2 h
   ·rcases(ho' m v' e2).2 with⟨v0,e3⟩|⟨_,e3⟩
    ·exact absurd (hr.inj _ _ _ _ _ h2 (e3 ▸ ho)) e
    ·have:=hr.lt _ _ _ h2;omega
 ·by_cases e:∃ v,o=some (m,v)
  ·obtain⟨v,e⟩:=e
   rcases hown m v e with h|h
   ·exact h
   ·exact absurd h (hx i v b hb (e ▸ ho))
  ·exact hh m hm fun v h=>e ⟨v,h⟩
 ·rw[hs]
  by_cases e:j=i
  ·subst e
   rw[hb] at hb2;cases hb2
   exact⟨b',List.getElem?_set_self hi,hm0 hm⟩
  ·exact⟨b2,by rw[List.getElem?_set_ne (Ne.symm e)];exact hb2,hm⟩
 ·rw[hσ] at h1
  rcases zw h1 with⟨rfl,e⟩|⟨e,h⟩
  ·rcases(ho' m v e).2 with⟨v0,e2⟩|⟨_,e2⟩
   ·exact⟨v0,by rw[ho,e2]⟩
   ·omega
  ·exact⟨v,h⟩
 ·rw[hs,hσ]
  by_cases e:j=i
  ·subst e;rw[hb] at h;cases h;exact absurd rfl hng
  ·rw[List.getElem?_set_ne (Ne.symm e),List.getElem?_set_ne (Ne.symm e)];exact⟨h,rfl⟩
 ·rcases(hΦ m).1 h with h|⟨_,v,e⟩
  ·exact .inl h
  ·rcases(ho' m v e).2 with⟨v0,e2⟩|⟨_,e2⟩
   ·exact .inr ⟨i,v0,b,hb,e2 ▸ ho,hng⟩
   ·omega
structure Kp(X:Gst)(m:Nat):Prop where
 lt:m<X.h.length
 phi:¬ X.Φ m
 gone:∀ (i v:Nat) (b:SB),X.sh[i]?=some b->X.σ[i]?=some (some (m,v))->b=.gone
theorem Kp.step{X Y:Gst}(hl:X.σ.length=X.sh.length)(S:Stp X Y){m:Nat}(h:Kp X m):Kp Y m/\Y.h[m]?=X.h[m]?:=by
 refine⟨⟨Nat.lt_of_lt_of_le h.lt S.fm.len,fun hΦ=>?_,fun i v b hb ho=>?_⟩,S.fm.h m h.lt fun i v b hb ho=>?_⟩
 ·rcases S.fm.phi m h.lt hΦ with q|⟨i,v,b,q1,q2,q3⟩
  ·exact h.phi q
  ·exact q3 (h.gone i v b q1 q2)
 ·obtain⟨v',q⟩:=S.fm.new i m v ho h.lt
  have hi:i<X.sh.length:=by rw[<- hl];exact(List.getElem?_eq_some_iff.1 q).1
  have:=h.gone i v' _ (List.getElem?_eq_getElem hi) q
  have:=(S.fm.gone i (by rw[List.getElem?_eq_getElem hi,this])).1
  rw[hb] at this;cases this;rfl
 ·rw[h.gone i v b hb ho];simp [SB.md]
theorem RH.swap{X:Gst}(hr:RH X){m:Nat}(h:Kp X m)(k:Blk):RH ⟨X.h.set m k,X.Φ,X.σ,X.sh⟩:=by
 have hne:∀ {m'},m'≠m->(X.h.set m k)[m']?=X.h[m']?:=fun e=>Arr.zk (Ne.symm e)
 have hle:X.le ⟨X.h.set m k,X.Φ,X.σ,X.sh⟩:=⟨fun m' hm=>hne fun e=>h.phi (e ▸ hm),fun _ h=>h,Nat.le_refl _,fun _ _ v h=>⟨v,h⟩,fun _ _ l k md _ h=>⟨l,k,md,h,Nat.le_refl _,fun _=>⟨rfl,rfl⟩⟩,hr.len⟩
 refine⟨hr.len,hr.inj,fun i m' v q=>?_,fun m' q=>?_,fun i b o hb ho=>?_,hr.own⟩
 ·show m'<(X.h.set m k).length;rw[Arr.length_set];exact hr.lt i m' v q
 ·show m'<(X.h.set m k).length;rw[Arr.length_set];exact hr.Φlt m' q
 ·by_cases e:b=.gone
  ·subst e;trivial
  ·exact(hr.blk i b o hb ho).le hle fun m' v e'=>hne fun e2=>e (h.gone i v b hb (by rw[show X.σ[i]?=some o from ho,e',e2]))
theorem Stp.swap{X Y:Gst}(hr:RH X)(S:Stp X Y){m:Nat}(h:Kp X m)(k:Blk):Stp ⟨X.h.set m k,X.Φ,X.σ,X.sh⟩ ⟨Y.h.set m k,Y.Φ,Y.σ,Y.sh⟩:=by
 obtain⟨hk,hm⟩:=h.step hr.len S
 have hs:∀ {m'},Y.h[m']?=X.h[m']? -> m'<X.h.length->(Y.h.set m k)[m']?=(X.h.set m k)[m']?:=fun {m'} q hlt=>by
  by_cases e:m'=m
  ·subst e;rw[Arr.zj hlt,Arr.zj (Nat.lt_of_lt_of_le hlt S.fm.len)]
  ·rw[Arr.zk (Ne.symm e),Arr.zk (Ne.symm e)];exact q
 refine⟨⟨fun m' q=>hs (S.le.h m' q) (hr.Φlt m' q),S.le.Φ,S.le.len,S.le.at_,S.le.seq,S.le.shl⟩,S.hr.swap hk k,⟨?_,fun m' hlt hx=>?_,S.fm.md,fun i m' v q hlt=>?_,S.fm.gone,fun m' hlt q=>?_⟩⟩
 ·show(X.h.set m k).length<=(Y.h.set m k).length;rw[Arr.length_set,Arr.length_set];exact S.fm.len
 ·have hlt:m'<X.h.length:=by have q:m'<(X.h.set m k).length:=hlt;rwa [Arr.length_set] at q
  exact hs (S.fm.h m' hlt hx) hlt
 ·exact S.fm.new i m' v q (by have q:m'<(X.h.set m k).length:=hlt;rwa [Arr.length_set] at q)
 ·exact S.fm.phi m' (by have q:m'<(X.h.set m k).length:=hlt;rwa [Arr.length_set] at q) q
theorem Stp.zrK{X Y:Gst}(S:Stp X Y){m:Nat}(h0:X.h.length<=m)(h:Kp Y m)(k:Blk)(hΦ:∀ m,X.Φ m->m<X.h.length):Stp X ⟨Y.h.set m k,Y.Φ,Y.σ,Y.sh⟩/\Y.le ⟨Y.h.set m k,Y.Φ,Y.σ,Y.sh⟩:=by
 have hne:∀ {m'},m'<X.h.length->(Y.h.set m k)[m']?=Y.h[m']?:=fun q=>Arr.zk fun e=>by omega
 refine⟨⟨⟨fun m' q=>(hne (hΦ m' q)).trans (S.le.h m' q),S.le.Φ,S.le.len,S.le.at_,S.le.seq,S.le.shl⟩,S.hr.swap h k,⟨?_,fun m' hlt hx=>(hne hlt).trans (S.fm.h m' hlt hx),S.fm.md,S.fm.new,S.fm.gone,S.fm.phi⟩⟩,?_⟩
 ·show _<=(Y.h.set m k).length;rw[Arr.length_set];exact S.fm.len
 ·exact⟨fun m' hm=>Arr.zk fun e=>h.phi (e ▸ hm),fun _ h=>h,Nat.le_refl _,fun _ _ v h=>⟨v,h⟩,fun _ _ l k md _ h=>⟨l,k,md,h,Nat.le_refl _,fun _=>⟨rfl,rfl⟩⟩,S.hr.len⟩
theorem Stp.zrv{X:Gst}(hr:RH X){loc:Nat}{b:SB}(hb:X.sh[loc]?=some b)(hng:b≠.gone)(h0:b.md=0):Stp X ⟨X.h,X.Φ,X.σ,X.sh.set loc .gone⟩:=by
 have hi:loc<X.σ.length:=by rw[hr.len];exact(List.getElem?_eq_some_iff.1 hb).1
 have hσ:X.σ=X.σ.set loc X.σ[loc]:=by
  refine List.ext_getElem? fun j=>?_
  rw[List.getElem?_set];split
  ·subst j;first|exact List.getElem?_eq_getElem hi|(rw[if_pos hi];exact List.getElem?_eq_getElem hi)
  ·rfl
 exact Stp.turn hr (b':=.gone) (o':=X.σ[loc]) hb (List.getElem?_eq_getElem hi) hng (fun _ _ _=>rfl) (fun _ _ _=>.inl rfl) (Nat.le_refl _) (fun m=>⟨.inl,fun h=>h.elim id fun h=>by cases h.1⟩) hσ rfl
  (fun m v e=>⟨hr.lt loc m v (by rw[List.getElem?_eq_getElem hi,e]),.inl ⟨v,e⟩⟩) (fun m v e=>⟨v,e⟩) (fun _ _ _ _ e=>by cases e) (fun h=>absurd h0 h) (fun _=>.inr rfl) fun _=>trivial
theorem Stp.again{X Y:Gst}(hr:RH X){loc m v:Nat}{b:SB}(hb:X.sh[loc]?=some b)(hσ:X.σ[loc]?=some (some (m,v)))(hng:b≠.gone)(h0:b.md=0)(hns:∀ u l k md,b≠.seq u l k md)
  (S:Stp ⟨X.h,X.Φ,X.σ,X.sh.set loc .gone⟩ Y) (hB:X.le ⟨Y.h,Y.Φ,Y.σ,Y.sh.set loc b⟩->RB ⟨Y.h,Y.Φ,Y.σ,Y.sh.set loc b⟩ b (some (m,v))):Stp X ⟨Y.h,Y.Φ,Y.σ,Y.sh.set loc b⟩:=by
 have hi:=(List.getElem?_eq_some_iff.1 hb).1
 obtain⟨g1,g2⟩:=S.fm.gone loc (List.getElem?_set_self hi)
 have hiY:=(List.getElem?_eq_some_iff.1 g1).1
 have hm:=hr.lt _ _ _ hσ
 have hΦX:¬ X.Φ m:=fun h=>(hr.own loc m v b hb hσ h).elim (fun e=>by omega) hng
 have hK:Kp ⟨X.h,X.Φ,X.σ,X.sh.set loc .gone⟩ m:=⟨hm,hΦX,fun i v' b' hb' ho=>by
  have e:=hr.inj _ _ _ _ _ ho hσ
  subst e
  have hb':(X.sh.set i .gone)[i]?=some b':=hb'
  rw[List.getElem?_set_self hi] at hb';cases hb';rfl⟩
 obtain⟨kY,hmY⟩:=hK.step (by show X.σ.length=(X.sh.set loc .gone).length;rw[List.length_set];exact hr.len) S
 have hle:X.le ⟨Y.h,Y.Φ,Y.σ,Y.sh.set loc b⟩:=by
  refine⟨S.le.h,S.le.Φ,S.le.len,S.le.at_,fun loc' u l k md hl h=>?_,hr.len⟩
  rcases zw h with⟨rfl,e⟩|⟨hne,h⟩
  ·exact absurd e (hns _ _ _ _)
  ·obtain⟨l',k',md',h1,h2,h3⟩:=S.le.seq loc' u l k md (by show(X.sh.set loc .gone).length > loc';rw[List.length_set];exact hl) h
   have h1:(X.sh.set loc .gone)[loc']?=some (.seq u l' k' md'):=h1
   rw[List.getElem?_set_ne (Ne.symm hne)] at h1
   exact⟨l',k',md',h1,h2,h3⟩
 have hleY:∀ {b':SB} {o:Option (Nat×Nat)},RB Y b' o->RB ⟨Y.h,Y.Φ,Y.σ,Y.sh.set loc b⟩ b' o:=fun h=>by
  have hl2:Y.le ⟨Y.h,Y.Φ,Y.σ,Y.sh.set loc b⟩:=by
   refine⟨fun _ _=>rfl,fun _ h=>h,Nat.le_refl _,fun _ _ v h=>⟨v,h⟩,fun loc' u l k md hl h=>?_,S.hr.len⟩
   rcases zw h with⟨rfl,e⟩|⟨hne,h⟩
   ·exact absurd e (hns _ _ _ _)
   ·exact⟨l,k,md,h,Nat.le_refl _,fun _=>⟨rfl,rfl⟩⟩
  exact h.le hl2 fun _ _ _=>rfl
 refine⟨hle,⟨by show Y.σ.length=(Y.sh.set loc b).length;rw[List.length_set];exact S.hr.len,S.hr.inj,S.hr.lt,S.hr.Φlt,fun i b' o h1 h2=>?_,fun i m' v' b' h1 h2 h3=>?_⟩,⟨S.fm.len,fun m' hlt hx=>?_,fun i b' h1 h2=>?_,S.fm.new,fun i h=>?_,fun m' hlt h=>?_⟩⟩
 ·rcases zw h1 with⟨rfl,rfl⟩|⟨hne,h1⟩
  ·have h2:Y.σ[i]?=some o:=h2
   rw[g2,hσ] at h2;cases h2
   exact hB hle
  ·exact hleY (S.hr.blk i b' o h1 h2)
 ·rcases zw h1 with⟨rfl,rfl⟩|⟨hne,h1⟩
  ·have h2:Y.σ[i]?=some (some (m',v')):=h2
   rw[g2,hσ] at h2;cases h2
   exact absurd h3 kY.phi
  ·exact S.hr.own i m' v' b' h1 h2 h3
 ·refine S.fm.h m' hlt fun i v' b' h1 h2=>?_
  rcases zw h1 with⟨rfl,rfl⟩|⟨hne,h1⟩
  ·simp [SB.md]
  ·exact hx i v' b' h1 h2
 ·have hne:i≠loc:=fun e=>by rw[e,hb] at h1;cases h1;exact h2 h0
  obtain⟨b2,q1,q2⟩:=S.fm.md i b' (by show(X.sh.set loc .gone)[i]?=_;rw[List.getElem?_set_ne (Ne.symm hne)];exact h1) h2
  exact⟨b2,by show(Y.sh.set loc b)[i]?=_;rw[List.getElem?_set_ne (Ne.symm hne)];exact q1,q2⟩
 ·have hne:i≠loc:=fun e=>by rw[e,hb] at h;cases h;exact hng rfl
  obtain⟨q1,q2⟩:=S.fm.gone i (by show(X.sh.set loc .gone)[i]?=_;rw[List.getElem?_set_ne (Ne.symm hne)];exact h)
  exact⟨by show(Y.sh.set loc b)[i]?=_;rw[List.getElem?_set_ne (Ne.symm hne)];exact q1,q2⟩
 ·rcases S.fm.phi m' hlt h with q|⟨i,v',b',q1,q2,q3⟩
  ·exact .inl q
  ·rcases zw q1 with⟨rfl,rfl⟩|⟨hne,q1⟩
   ·exact absurd rfl q3
   ·exact .inr ⟨i,v',b',q1,q2,q3⟩
end Go.Sx
namespace Go.Sx
open Go Go.Gx Go.Mx
variable [qE]
theorem zq{u v:U}{l:List (El u)}{l':List (El v)}(h:qX u v l=some l'):∃ e:u=v,e ▸ l=l':=by
 unfold qX at h
 split at h
 ·rename_i e;exact⟨e,Option.some.inj h⟩
 ·cases h
theorem znH{u v:U}{l:List (El u)}{α:Type}{f:List (El v)->α}{r:α}(h:(qX u v l).map f=some r):∃ e:u=v,f (e ▸ l)=r:=by
 cases q:qX u v l with
 |none=>rw[q] at h;cases h
 |some l'=>rw[q] at h;obtain⟨e,e2⟩:=zq q;cases h;exact⟨e,by rw[e2]⟩
theorem wP{α:Type}{l:List α}{a n:Nat}(h:a+n<=l.length):(slice l a (a+n)).length=n:=by
 unfold slice;rw[List.length_take,List.length_drop];omega
theorem zk0{α:Type}{l:List α}{a n i:Nat}{e:α}(h:(slice l a (a+n))[i]?=some e):i<n/\l[a+i]?=some e:=by
 unfold slice at h
 rw[List.getElem?_take] at h
 split at h
 ·rw[List.getElem?_drop] at h;exact⟨by omega,h⟩
 ·cases h
theorem zN(sz i:Nat)(cs:List AV):part sz cs i=(cs.drop (i*sz)).take sz:=rfl
theorem RCs.slice{h:za}{Φ:Nat->Prop}{u:U}{l:List (El u)}{cs:List AV}(q:RCs h Φ u l cs){a n:Nat}(hl:a+n<=l.length):RCs h Φ u (slice l a (a+n)) ((cs.drop (a*u.sz)).take (n*u.sz)):=by
 have hm:a*u.sz+n*u.sz<=l.length*u.sz:=by rw[<- Nat.add_mul];exact Nat.mul_le_mul_right _ hl
 refine⟨by rw[wP hl,List.length_take,List.length_drop,q.1];omega,fun i e hi=>?_⟩
 obtain⟨h1,h2⟩:=zk0 hi
 have:=q.2 (a+i) e h2
 rw[zN] at this |-
 have hi:i*u.sz+u.sz<=n*u.sz:=by rw[<- Nat.succ_mul];exact Nat.mul_le_mul_right _ h1
 rw[List.drop_take,List.drop_drop,List.take_take,Nat.min_eq_left (by omega),<- Nat.add_mul]
 exact this
theorem zc2{h:za}{m ver minv frz:Nat}{cells:List AV}{ro:Bool}{tt:Option TypeId}(hb:h[m]?=some (.row cells ver minv frz ro tt))(hv:minv<=ver)(off n lim:Nat)(hl:off+n<=lim):rd h m off ver lim n=some ((cells.drop off).take n):=by
 unfold rd;rw[hb];simp only;rw[if_pos ⟨hv,hl⟩]
theorem zb{a b:Nat}(h:Nat.beq a b=true):a=b:=Nat.eq_of_beq_eq_true h
theorem Stp.freeze{X:Gst}(hr:RH X){loc:Nat}{u:U}{l:List (El u)}{k md:Nat}(hb:X.sh[loc]?=some (.seq u l k md)):∃ o Y,X.σ[loc]?=some o/\Stp X Y/\Y.h=X.h/\Y.sh=X.sh.set loc (.seq u l k 2)/\∀ m v,o=some (m,v)->Y.Φ m:=by
 have hi:=(List.getElem?_eq_some_iff.1 hb).1
 obtain⟨o,ho⟩:∃ o,X.σ[loc]?=some o:=⟨_,List.getElem?_eq_getElem (by rw[hr.len];exact hi)⟩
 have hσ:X.σ=X.σ.set loc o:=by
  refine List.ext_getElem? fun j=>?_
  rw[List.getElem?_set];split
  ·subst j;rw[if_pos (by rw[hr.len];exact hi)];exact ho
  ·rfl
 have hrb:=hr.blk _ _ _ hb ho
 refine⟨o,⟨X.h,fun m=>X.Φ m\/(2=2/\∃ v,o=some (m,v)),X.σ,X.sh.set loc (.seq u l k 2)⟩,ho,?_,rfl,rfl,fun m v e=>.inr ⟨rfl,v,e⟩⟩
 refine Stp.turn hr hb ho (by simp) (fun m _ _=>rfl) (fun m v _=>.inl rfl) (Nat.le_refl _) (fun m=>Iff.rfl) hσ rfl (fun m v e=>⟨hr.lt loc m v (e ▸ ho),.inl ⟨v,e⟩⟩) (fun m v e=>⟨v,e⟩)
  (fun u' l' k' md' e=>by cases e;exact⟨l,k,md,rfl,Nat.le_refl _,fun _=>⟨rfl,rfl⟩⟩) (fun _=>by simp [SB.md]) (fun _=>.inl rfl) fun hle=>?_
 cases o with
 |none=>exact hrb
 |some p=>
  obtain⟨m,ver⟩:=p
  obtain⟨cells,minv,tt,h1,h2,h3,h4⟩:=hrb
  exact⟨cells,minv,tt,h1,h2,h3.le hle.h hle.Φ,fun _=>.inr ⟨rfl,ver,rfl⟩⟩
theorem zi1{X:Gst}(hr:RH X){u:U}{v:SV}{x:AV}{l:List (El u)}{h':SH}(hv:RV X v x)(ht:take u v X.sh=some (l,h')):∃ Y,Stp X Y/\Y.h=X.h/\Y.sh=h'/\RSl Y.h Y.Φ false u l x:=by
 unfold take at ht
 split at ht
 ·cases ht;cases(show x=_ from hv);exact⟨X,.refl hr,rfl,rfl,.inl ⟨rfl,rfl⟩⟩
 ·obtain⟨e,e2⟩:=znH ht;subst e;cases e2;exact⟨X,.refl hr,rfl,rfl,hv⟩
 ·
  split at ht
  ·rename_i loc n _ u' l' k md hb
   split at ht
   ·rename_i hn
    cases zb hn
    obtain⟨e,e2⟩:=znH ht;subst e;cases e2
    obtain⟨o,Y,ho,hS,h1,h2,h3⟩:=Stp.freeze hr hb
    refine⟨Y,hS,h1,h2,?_⟩
    obtain⟨hone,o',ho',hc⟩:=hv
    rw[ho] at ho';cases ho'
    have hQ:=(hc _ _ _ _ hb).2 rfl
    have hB:=hr.blk _ _ _ hb ho
    cases o with
    |none=>obtain⟨rfl,_⟩:=hQ;exact .inl ⟨hB,rfl⟩
    |some p=>
     obtain⟨m,ver⟩:=p
     obtain⟨cells,minv,tt,q1,q2,q3,q4⟩:=hB
     cases(show x=_ from hQ)
     refine .inr ⟨m,0,ver,false,cells,rfl,.inl rfl,h3 m ver rfl,?_,(q3.le hS.le.h hS.le.Φ)⟩
     rw[h1,zc2 q1 q2 _ _ _ (Nat.le_refl _),List.drop_zero,List.take_of_length_le (by rw[q3.1];exact Nat.le_refl _)]
   ·cases ht
  ·cases ht
 ·
  split at ht
  ·rename_i loc n off len _ u' l' k md hb
   split at ht
   ·rename_i hn
    cases zb hn
    obtain⟨e,e2⟩:=znH ht;subst e;cases e2
    obtain⟨o,Y,ho,hS,h1,h2,h3⟩:=Stp.freeze hr hb
    refine⟨Y,hS,h1,h2,?_⟩
    obtain⟨hone,o',ho',hc⟩:=hv
    rw[ho] at ho';cases ho'
    obtain⟨hl,hQ⟩:=(hc _ _ _ _ hb).2 rfl
    have hB:=hr.blk _ _ _ hb ho
    cases o with
    |none=>
     cases(show x=_ from hQ)
     refine .inl ⟨?_,rfl⟩
     rw[show l'=[] from hB];simp [slice]
    |some p=>
     obtain⟨m,ver⟩:=p
     obtain⟨cells,minv,tt,q1,q2,q3,q4⟩:=hB
     cases(show x=_ from hQ)
     have hlen:=wP hl
     refine .inr ⟨m,off*u'.sz,ver,false,(cells.drop (off*u'.sz)).take (len*u'.sz),by rw[hlen],.inl rfl,h3 m ver rfl,?_,((q3.slice hl).le hS.le.h hS.le.Φ)⟩
     rw[h1,hlen,zc2 q1 q2 _ _ _ (Nat.le_refl _)]
   ·cases ht
  ·cases ht
 ·cases ht
theorem zlQ{vs r:List SV}{h h':SH}{e:Bool}(hd:dec .bool vs h=some (e,r,h')):vs=.a (.bool e)::r/\h'=h:=by
 rcases vs with _|⟨v,vs⟩
 ·simp [dec] at hd
 ·cases v<;>first|(simp [dec] at hd;done)|skip
  rename_i w
  cases w<;>first|(simp [dec] at hd;done)|skip
  simp [dec] at hd;obtain⟨rfl,rfl,rfl⟩:=hd;exact⟨rfl,rfl⟩
theorem znK{k:IntKind}{vs r:List SV}{h h':SH}{e:Int}(hd:dec (.int k) vs h=some (e,r,h')):vs=.a (.int k e)::r/\h'=h:=by
 rcases vs with _|⟨v,vs⟩
 ·simp [dec] at hd
 ·cases v<;>first|(simp [dec] at hd;done)|skip
  rename_i w
  cases w<;>first|(simp [dec] at hd;done)|skip
  simp [dec] at hd;obtain⟨rfl,rfl,rfl,rfl⟩:=hd;exact⟨rfl,rfl⟩
theorem zpc{vs r:List SV}{h h':SH}{e:UInt8}(hd:dec .u8 vs h=some (e,r,h')):vs=.u8 e::r/\h'=h:=by
 rcases vs with _|⟨v,vs⟩
 ·simp [dec] at hd
 ·cases v<;>first|(simp [dec] at hd;done)|skip
  simp [dec] at hd;obtain⟨rfl,rfl,rfl⟩:=hd;exact⟨rfl,rfl⟩
theorem znM{vs r:List SV}{h h':SH}{e:List UInt8}(hd:dec .str vs h=some (e,r,h')):vs=.a (.str e)::r/\h'=h:=by
 rcases vs with _|⟨v,vs⟩
 ·simp [dec] at hd
 ·cases v<;>first|(simp [dec] at hd;done)|skip
  rename_i w
  cases w<;>first|(simp [dec] at hd;done)|skip
  simp [dec] at hd;obtain⟨rfl,rfl,rfl⟩:=hd;exact⟨rfl,rfl⟩
theorem kV:∀ (u:U) {X:Gst} (hr:RH X) {vs r:List SV} {xs:List AV} {e:El u} {h':SH},RVs X vs xs->dec u vs X.sh=some (e,r,h') ->
  ∃ Y c1 c2,Stp X Y/\Y.h=X.h/\Y.sh=h'/\xs=c1++c2/\RE Y.h Y.Φ u e c1/\RVs Y r c2
 |.bool,X,hr,vs,r,xs,e,h',hv,hd=>by
  obtain⟨rfl,rfl⟩:=zlQ hd
  obtain⟨x,t,rfl,h1,h2⟩:=hv
  exact⟨X,[_],t,.refl hr,rfl,rfl,rfl,by cases(show x=_ from h1);rfl,h2⟩
 |.int k,X,hr,vs,r,xs,e,h',hv,hd=>by
  obtain⟨rfl,rfl⟩:=znK hd
  obtain⟨x,t,rfl,h1,h2⟩:=hv
  exact⟨X,[_],t,.refl hr,rfl,rfl,rfl,by cases(show x=_ from h1);rfl,h2⟩
 |.u8,X,hr,vs,r,xs,e,h',hv,hd=>by
  obtain⟨rfl,rfl⟩:=zpc hd
  obtain⟨x,t,rfl,h1,h2⟩:=hv
  exact⟨X,[_],t,.refl hr,rfl,rfl,rfl,by cases(show x=_ from h1);rfl,h2⟩
 |.str,X,hr,vs,r,xs,e,h',hv,hd=>by
  obtain⟨rfl,rfl⟩:=znM hd
  obtain⟨x,t,rfl,h1,h2⟩:=hv
  exact⟨X,[_],t,.refl hr,rfl,rfl,rfl,by cases(show x=_ from h1);rfl,h2⟩
 |.sl u,X,hr,vs,r,xs,e,h',hv,hd=>by
  cases vs with
  |nil=>simp [dec] at hd
  |cons v vs=>
   obtain⟨x,t,rfl,h1,h2⟩:=hv
   simp only[dec] at hd
   split at hd
   ·rename_i l h2' ht
    cases hd
    obtain⟨Y,hS,hh,hs,hq⟩:=zi1 hr h1 ht
    exact⟨Y,[x],t,hS,hh,hs,rfl,znB.2 ⟨x,rfl,hq⟩,h2.le hS.le⟩
   ·cases hd
 |.slc u,X,hr,vs,r,xs,e,h',hv,hd=>by
  cases vs with
  |nil=>simp [dec] at hd
  |cons v vs=>
   obtain⟨x,t,rfl,h1,h2⟩:=hv
   simp only[dec] at hd
   split at hd
   ·rename_i l ht
    cases hd
    refine⟨X,[x],t,.refl hr,rfl,rfl,rfl,zhw.2 ⟨x,rfl,?_⟩,h2⟩
    unfold zlh at ht
    split at ht
    ·cases ht;cases(show x=_ from h1);exact⟨false,.inl ⟨rfl,rfl⟩⟩
    ·obtain⟨e,e2⟩:=zq ht;subst e;cases e2;exact⟨false,h1⟩
    ·obtain⟨e,e2⟩:=zq ht;subst e;cases e2;exact⟨true,h1.1⟩
    ·obtain⟨e,e2⟩:=zq ht;subst e;cases e2;exact h1
    ·cases ht
   ·cases hd
 |.pair u v,X,hr,vs,r,xs,e,h',hv,hd=>by
  simp only[dec] at hd
  split at hd
  ·rename_i a r1 h1 hd1
   split at hd
   ·rename_i b r2 h2 hd2
    cases hd
    obtain⟨Y,c1,c2,S1,hh1,hs1,rfl,he1,hr1⟩:=kV u hr hv hd1
    rw[<- hs1] at hd2
    obtain⟨Z,c3,c4,S2,hh2,hs2,rfl,he2,hr2⟩:=kV v S1.hr hr1 hd2
    exact⟨Z,c1++c3,c4,S1.trans S2,hh2.trans hh1,hs2,(List.append_assoc _ _ _).symm,⟨c1,c3,rfl,he1.le S2.le.h S2.le.Φ,he2⟩,hr2⟩
   ·cases hd
  ·cases hd
 |.unit,X,hr,vs,r,xs,e,h',hv,hd=>by
  simp only[dec] at hd;cases hd
  exact⟨X,[],xs,.refl hr,rfl,rfl,rfl,rfl,hv⟩
theorem zce{sz i:Nat}{c1 c2:List AV}(h:c1.length=sz):part sz (c1++c2) (i+1)=part sz c2 i:=by
 rw[zN,zN,List.drop_append,h,Nat.succ_mul,List.drop_of_length_le (by omega),List.nil_append,Nat.add_sub_cancel]
theorem zcf{sz:Nat}{c1 c2:List AV}(h:c1.length=sz):part sz (c1++c2) 0=c1:=by
 rw[zN,Nat.zero_mul,List.drop_zero,List.take_append_of_le_length (by omega),List.take_of_length_le (by omega)]
theorem RCs.cons{h:za}{Φ:Nat->Prop}{u:U}{e:El u}{l:List (El u)}{c1 c2:List AV}(q:RE h Φ u e c1)(q2:RCs h Φ u l c2):RCs h Φ u (e::l) (c1++c2):=by
 refine⟨by rw[List.length_append,q.length,q2.1,List.length_cons,Nat.succ_mul];omega,fun i e' hi=>?_⟩
 cases i with
 |zero=>simp at hi;subst hi;rw[zcf q.length];exact q
 |succ i=>rw[zce q.length];exact q2.2 i e' (by simpa using hi)
theorem RCs.append{h:za}{Φ:Nat->Prop}{u:U}{l l':List (El u)}{c c':List AV}(q:RCs h Φ u l c)(q':RCs h Φ u l' c'):RCs h Φ u (l++l') (c++c'):=by
 refine⟨by rw[List.length_append,List.length_append,q.1,q'.1,Nat.add_mul],fun i e hi=>?_⟩
 by_cases hl:i<l.length
 ·rw[List.getElem?_append_left hl] at hi
  have:=q.2 i e hi
  have hm:i*u.sz+u.sz<=l.length*u.sz:=by rw[<- Nat.succ_mul];exact Nat.mul_le_mul_right _ hl
  rw[zN,List.drop_append_of_le_length (by rw[q.1];omega),List.take_append_of_le_length (by rw[List.length_drop,q.1];omega)]
  exact this
 ·rw[List.getElem?_append_right (by omega)] at hi
  have:=q'.2 _ e hi
  rw[zN,List.drop_append,List.drop_of_length_le (by rw[q.1];exact Nat.mul_le_mul_right _ (by omega)),List.nil_append,q.1,<- Nat.sub_mul]
  exact this
theorem RCs.nil{h:za}{Φ:Nat->Prop}{u:U}:RCs h Φ u [] []:=⟨by simp,fun i e hi=>by simp at hi⟩
theorem zdy(u:U):∀ (k:Nat) {X:Gst} (hr:RH X) {vs:List SV} {xs:List AV} {l:List (El u)} {h':SH},RVs X vs xs->zoV u k vs X.sh=some (l,h') ->
  ∃ Y,Stp X Y/\Y.h=X.h/\Y.sh=h'/\l.length=k/\RCs Y.h Y.Φ u l xs
 |0,X,hr,vs,xs,l,h',hv,hd=>by
  cases vs with
  |nil=>simp only[zoV] at hd;cases hd;cases(show xs=[] from hv);exact⟨X,.refl hr,rfl,rfl,rfl,.nil⟩
  |cons v vs=>simp [zoV] at hd
 |k+1,X,hr,vs,xs,l,h',hv,hd=>by
  simp only[zoV] at hd
  split at hd
  ·rename_i x r1 h1 hd1
   split at hd
   ·rename_i l2 h2 hd2
    cases hd
    obtain⟨Y,c1,c2,S1,hh1,hs1,rfl,he1,hr1⟩:=kV u hr hv hd1
    rw[<- hs1] at hd2
    obtain⟨Z,S2,hh2,hs2,hl,hq⟩:=zdy u k S1.hr hr1 hd2
    exact⟨Z,S1.trans S2,hh2.trans hh1,hs2,by simp [hl],.cons (he1.le S2.le.h S2.le.Φ) hq⟩
   ·cases hd
  ·cases hd
def reads(u:U)(v:SV)(h:SH):Option (List (El u)):=match v with
 |.a .qj=>some []
 |.isl u' l=>qX u' u l
 |.cl u' l=>qX u' u l
 |.ul u' l=>qX u' u l
 |.nsl u' l=>qX u' u l
 |.gs loc n=>match h[loc]? with
  |some (.seq u' l m _)=>match Nat.beq m n with
   |true=>qX u' u l
   |false=>none
  |_=>none
 |.sl loc n off len _=>match h[loc]? with
  |some (.seq u' l m _)=>match Nat.beq m n with
   |true=>qX u' u (slice l off (off+len))
   |false=>none
  |_=>none
 |_=>none
theorem wE{X:Gst}(hr:RH X){u:U}{v:SV}{x:AV}{l:List (El u)}(hv:RV X v x)(ht:reads u v X.sh=some l):
  (l=[]/\x=.qj)\/∃ m off ver clip cs,x=.sl m off l.length u.sz ver clip/\rd X.h m off ver (off+l.length*u.sz) (l.length*u.sz)=some cs/\RCs X.h X.Φ u l cs:=by
 unfold reads at ht
 split at ht
 ·cases ht;cases(show x=_ from hv);exact .inl ⟨rfl,rfl⟩
 ·obtain⟨e,e2⟩:=zq ht;subst e;cases e2;exact hv.imp id fun⟨m,off,ver,c',cs,h1,h0,h2,h3,h4⟩=>⟨m,off,ver,c',cs,h1,h3,h4⟩
 ·obtain⟨e,e2⟩:=zq ht;subst e;cases e2;exact hv.1.imp id fun⟨m,off,ver,c',cs,h1,h0,h2,h3,h4⟩=>⟨m,off,ver,c',cs,h1,h3,h4⟩
 ·obtain⟨e,e2⟩:=zq ht;subst e;cases e2;obtain⟨c,hv⟩:=hv;exact hv.imp id fun⟨m,off,ver,c',cs,h1,h0,h2,h3,h4⟩=>⟨m,off,ver,c',cs,h1,h3,h4⟩
 ·obtain⟨e,e2⟩:=zq ht;subst e;cases e2;obtain⟨m,off,ver,c',cs,h1,h0,h2,h3,h4⟩:=hv;exact .inr ⟨m,off,ver,c',cs,h1,h3,h4⟩
 ·split at ht
  ·rename_i loc n _ u' l' k md hb
   split at ht
   ·rename_i hn
    cases zb hn
    obtain⟨e,e2⟩:=zq ht;subst e;cases e2
    obtain⟨hone,o,ho,hc⟩:=hv
    have hQ:=(hc _ _ _ _ hb).2 rfl
    have hB:=hr.blk _ _ _ hb ho
    cases o with
    |none=>obtain⟨rfl,_⟩:=hQ;exact .inl ⟨hB,rfl⟩
    |some p=>
     obtain⟨m,ver⟩:=p
     obtain⟨cells,minv,tt,q1,q2,q3,q4⟩:=hB
     cases(show x=_ from hQ)
     refine .inr ⟨m,0,ver,false,cells,rfl,?_,q3⟩
     rw[zc2 q1 q2 _ _ _ (Nat.le_refl _),List.drop_zero,List.take_of_length_le (by rw[q3.1];exact Nat.le_refl _)]
   ·cases ht
  ·cases ht
 ·split at ht
  ·rename_i loc n off len c _ u' l' k md hb
   split at ht
   ·rename_i hn
    cases zb hn
    obtain⟨e,e2⟩:=zq ht;subst e;cases e2
    obtain⟨hone,o,ho,hc⟩:=hv
    obtain⟨hl,hQ⟩:=(hc _ _ _ _ hb).2 rfl
    have hB:=hr.blk _ _ _ hb ho
    cases o with
    |none=>
     cases(show x=_ from hQ)
     refine .inl ⟨?_,rfl⟩
     rw[show l'=[] from hB];simp [slice]
    |some p=>
     obtain⟨m,ver⟩:=p
     obtain⟨cells,minv,tt,q1,q2,q3,q4⟩:=hB
     cases(show x=_ from hQ)
     have hlen:=wP hl
     refine .inr ⟨m,off*u'.sz,ver,c,(cells.drop (off*u'.sz)).take (len*u'.sz),by rw[hlen],?_,q3.slice hl⟩
     rw[hlen,zc2 q1 q2 _ _ _ (Nat.le_refl _)]
   ·cases ht
  ·cases ht
 ·cases ht
end Go.Sx
namespace Go.Sx
open Go Go.Gx Go.Mx
variable [qE]
inductive SR where
 |val (v:SV) (h:SH)|unit (h:SH)|call (c:FuncId ⊕ Nat) (args:List SV)|dfr (f:FuncId) (args cap:List SV)
abbrev zeY:=List (Bool×SR)
def Hit:zeY->SR->Prop
 | [],_=>False
 |(g,r)::l,q=>(g=true/\r=q)\/(g=false/\Hit l q)
def one(g:Bool)(v:SV)(h:SH):zeY:=[(g,.val v h)]
def zgU(h:SH):Option SV->zeY
 |some v=>[(true,.val v h)]
 |none=>[]
def zoY(h:SH):Option (Bool×SV)->zeY
 |some (g,v)=>[(g,.val v h)]
 |none=>[]
def zoZ:Option (Bool×SV×SH)->zeY
 |some (g,v,h)=>[(g,.val v h)]
 |none=>[]
def zqp:Option SH->zeY
 |some h=>[(true,.unit h)]
 |none=>[]
theorem qa{g:Bool}{v:SV}{h:SH}{q:SR}(k:Hit (one g v h) q):g=true/\q=.val v h:=by
 rcases k with⟨h1,h2⟩|⟨_,h2⟩
 ·exact⟨h1,h2.symm⟩
 ·cases h2
theorem zal{h:SH}{o:Option SV}{q:SR}(k:Hit (zgU h o) q):∃ v,o=some v/\q=.val v h:=by
 cases o with
 |none=>cases k
 |some v=>exact⟨v,rfl,(qa (g:=true) k).2⟩
theorem zik{h:SH}{o:Option (Bool×SV)}{q:SR}(k:Hit (zoY h o) q):∃ v,o=some (true,v)/\q=.val v h:=by
 cases o with
 |none=>cases k
 |some p=>obtain⟨g,v⟩:=p;obtain⟨rfl,h2⟩:=qa (g:=g) k;exact⟨v,rfl,h2⟩
theorem zjM{o:Option (Bool×SV×SH)}{q:SR}(k:Hit (zoZ o) q):∃ v h,o=some (true,v,h)/\q=.val v h:=by
 cases o with
 |none=>cases k
 |some p=>obtain⟨g,v,h⟩:=p;obtain⟨rfl,h2⟩:=qa (g:=g) k;exact⟨v,h,rfl,h2⟩
theorem zqM{o:Option SH}{q:SR}(k:Hit (zqp o) q):∃ h,o=some h/\q=.unit h:=by
 cases o with
 |none=>cases k
 |some h=>
  rcases k with⟨_,h2⟩|⟨h1,_⟩
  ·exact⟨h,rfl,h2.symm⟩
  ·cases h1
abbrev GL:=List (Option (List SV))
def Gst.base(X:Gst):Gst:=⟨X.h,X.Φ,[],[]⟩
theorem znF{X:Gst}(h:X.σ.length=X.sh.length):X.base.le X:=⟨fun _ _=>rfl,fun _ h=>h,Nat.zero_le _,fun loc m v h=>by simp [Gst.base] at h,fun loc u l k md h=>by simp [Gst.base] at h,rfl⟩
theorem zjo{X Y:Gst}(h:X.le Y):X.base.le Y.base:=⟨h.h,h.Φ,Nat.le_refl _,fun loc m v h=>by simp [Gst.base] at h,fun loc u l k md h=>by simp [Gst.base] at h,rfl⟩
def RGl(P:Program)(gl:GL)(X:Gst):Prop:=∀ (g:Nat) (cs:List SV),gl[g]?=some (some cs)->g<P.globals.size/\X.Φ g/\∃ cells,X.h[g]?=some (.lay cells)/\RVs X.base cs cells
theorem RGl.le{P:Program}{gl:GL}{X Y:Gst}(h:RGl P gl X)(hl:X.le Y):RGl P gl Y:=fun g cs hg=>let⟨h1,h2,cells,h3,h4⟩:=h g cs hg;⟨h1,hl.Φ _ h2,cells,(hl.h _ h2).trans h3,h4.le (zjo hl)⟩
def tl8(l:List SV):List SV:=List.casesOn (motive:=fun _=>List SV) l [] fun _ t1=>List.casesOn (motive:=fun _=>List SV) t1 [] fun _ t2=>List.casesOn (motive:=fun _=>List SV) t2 [] fun _ t3=>List.casesOn (motive:=fun _=>List SV) t3 [] fun _ t4=>List.casesOn (motive:=fun _=>List SV) t4 [] fun _ t5=>List.casesOn (motive:=fun _=>List SV) t5 [] fun _ t6=>List.casesOn (motive:=fun _=>List SV) t6 [] fun _ t7=>List.casesOn (motive:=fun _=>List SV) t7 [] fun _ t8=>t8
def gt8(l:List SV)(n:Nat):Option SV:=List.casesOn (motive:=fun _=>Option SV) l none fun a t1=>Nat.casesOn (motive:=fun _=>Option SV) n (some a) fun n1=>List.casesOn (motive:=fun _=>Option SV) t1 none fun a t2=>Nat.casesOn (motive:=fun _=>Option SV) n1 (some a) fun n2=>List.casesOn (motive:=fun _=>Option SV) t2 none fun a t3=>Nat.casesOn (motive:=fun _=>Option SV) n2 (some a) fun n3=>List.casesOn (motive:=fun _=>Option SV) t3 none fun a t4=>Nat.casesOn (motive:=fun _=>Option SV) n3 (some a) fun n4=>List.casesOn (motive:=fun _=>Option SV) t4 none fun a t5=>Nat.casesOn (motive:=fun _=>Option SV) n4 (some a) fun n5=>List.casesOn (motive:=fun _=>Option SV) t5 none fun a t6=>Nat.casesOn (motive:=fun _=>Option SV) n5 (some a) fun n6=>List.casesOn (motive:=fun _=>Option SV) t6 none fun a t7=>Nat.casesOn (motive:=fun _=>Option SV) n6 (some a) fun n7=>List.casesOn (motive:=fun _=>Option SV) t7 none fun a t8=>Nat.casesOn (motive:=fun _=>Option SV) n7 (some a) fun n8=>none
def zq3(l:List SV)(n:Nat):Option SV:=l[n]?
def zpX(l:List SV)(n:Nat):Option SV:=Bool.casesOn (motive:=fun _=>Option SV) (Nat.blt n 8) (zq3 (tl8 l) (n-8)) (gt8 l n)
def zpY(l:List SV)(n:Nat):Option SV:=Bool.casesOn (motive:=fun _=>Option SV) (Nat.blt n 8) (zpX (tl8 l) (n-8)) (gt8 l n)
def zpZ(l:List SV)(n:Nat):Option SV:=Bool.casesOn (motive:=fun _=>Option SV) (Nat.blt n 8) (zpY (tl8 l) (n-8)) (gt8 l n)
def zp0(l:List SV)(n:Nat):Option SV:=Bool.casesOn (motive:=fun _=>Option SV) (Nat.blt n 8) (zpZ (tl8 l) (n-8)) (gt8 l n)
def zp1(l:List SV)(n:Nat):Option SV:=Bool.casesOn (motive:=fun _=>Option SV) (Nat.blt n 8) (zp0 (tl8 l) (n-8)) (gt8 l n)
def zp2(l:List SV)(n:Nat):Option SV:=Bool.casesOn (motive:=fun _=>Option SV) (Nat.blt n 8) (zp1 (tl8 l) (n-8)) (gt8 l n)
def zp3(l:List SV)(n:Nat):Option SV:=Bool.casesOn (motive:=fun _=>Option SV) (Nat.blt n 8) (zp2 (tl8 l) (n-8)) (gt8 l n)
def zp4(l:List SV)(n:Nat):Option SV:=Bool.casesOn (motive:=fun _=>Option SV) (Nat.blt n 8) (zp3 (tl8 l) (n-8)) (gt8 l n)
def zp5(l:List SV)(n:Nat):Option SV:=Bool.casesOn (motive:=fun _=>Option SV) (Nat.blt n 8) (zp4 (tl8 l) (n-8)) (gt8 l n)
def zp6(l:List SV)(n:Nat):Option SV:=Bool.casesOn (motive:=fun _=>Option SV) (Nat.blt n 8) (zp5 (tl8 l) (n-8)) (gt8 l n)
def znm(l:List SV)(n:Nat):Option SV:=Bool.casesOn (motive:=fun _=>Option SV) (Nat.blt n 8) (zp6 (tl8 l) (n-8)) (gt8 l n)
def znn(l:List SV)(n:Nat):Option SV:=Bool.casesOn (motive:=fun _=>Option SV) (Nat.blt n 8) (znm (tl8 l) (n-8)) (gt8 l n)
def zno(l:List SV)(n:Nat):Option SV:=Bool.casesOn (motive:=fun _=>Option SV) (Nat.blt n 8) (znn (tl8 l) (n-8)) (gt8 l n)
def znp(l:List SV)(n:Nat):Option SV:=Bool.casesOn (motive:=fun _=>Option SV) (Nat.blt n 8) (zno (tl8 l) (n-8)) (gt8 l n)
def znq(l:List SV)(n:Nat):Option SV:=Bool.casesOn (motive:=fun _=>Option SV) (Nat.blt n 8) (znp (tl8 l) (n-8)) (gt8 l n)
def zmr(l:List SV)(n:Nat):Option SV:=Bool.casesOn (motive:=fun _=>Option SV) (Nat.blt n 8) (znq (tl8 l) (n-8)) (gt8 l n)
def st8(l:List SV)(n:Nat)(v:SV):List SV:=List.casesOn (motive:=fun _=>List SV) l l fun a t1=>Nat.casesOn (motive:=fun _=>List SV) n (v::t1) fun n1=>List.casesOn (motive:=fun _=>List SV) t1 l fun b t2=>Nat.casesOn (motive:=fun _=>List SV) n1 (a::v::t2) fun n2=>List.casesOn (motive:=fun _=>List SV) t2 l fun c t3=>Nat.casesOn (motive:=fun _=>List SV) n2 (a::b::v::t3) fun n3=>List.casesOn (motive:=fun _=>List SV) t3 l fun d t4=>Nat.casesOn (motive:=fun _=>List SV) n3 (a::b::c::v::t4) fun n4=>List.casesOn (motive:=fun _=>List SV) t4 l fun e t5=>Nat.casesOn (motive:=fun _=>List SV) n4 (a::b::c::d::v::t5) fun n5=>List.casesOn (motive:=fun _=>List SV) t5 l fun f t6=>Nat.casesOn (motive:=fun _=>List SV) n5 (a::b::c::d::e::v::t6) fun n6=>List.casesOn (motive:=fun _=>List SV) t6 l fun g t7=>Nat.casesOn (motive:=fun _=>List SV) n6 (a::b::c::d::e::f::v::t7) fun n7=>List.casesOn (motive:=fun _=>List SV) t7 l fun h t8=>Nat.casesOn (motive:=fun _=>List SV) n7 (a::b::c::d::e::f::g::v::t8) fun n8=>l
def zq7(l:List SV)(n:Nat)(v:SV):List SV:=l.set n v
def zp8(l:List SV)(n:Nat)(v:SV):List SV:=Bool.casesOn (motive:=fun _=>List SV) (Nat.blt n 8) (List.casesOn (motive:=fun _=>List SV) l l fun a t1=>List.casesOn (motive:=fun _=>List SV) t1 l fun b t2=>List.casesOn (motive:=fun _=>List SV) t2 l fun c t3=>List.casesOn (motive:=fun _=>List SV) t3 l fun d t4=>List.casesOn (motive:=fun _=>List SV) t4 l fun e t5=>List.casesOn (motive:=fun _=>List SV) t5 l fun f t6=>List.casesOn (motive:=fun _=>List SV) t6 l fun g t7=>List.casesOn (motive:=fun _=>List SV) t7 l fun h t8=>a::b::c::d::e::f::g::h::zq7 t8 (n-8) v) (st8 l n v)
def zp9(l:List SV)(n:Nat)(v:SV):List SV:=Bool.casesOn (motive:=fun _=>List SV) (Nat.blt n 8) (List.casesOn (motive:=fun _=>List SV) l l fun a t1=>List.casesOn (motive:=fun _=>List SV) t1 l fun b t2=>List.casesOn (motive:=fun _=>List SV) t2 l fun c t3=>List.casesOn (motive:=fun _=>List SV) t3 l fun d t4=>List.casesOn (motive:=fun _=>List SV) t4 l fun e t5=>List.casesOn (motive:=fun _=>List SV) t5 l fun f t6=>List.casesOn (motive:=fun _=>List SV) t6 l fun g t7=>List.casesOn (motive:=fun _=>List SV) t7 l fun h t8=>a::b::c::d::e::f::g::h::zp8 t8 (n-8) v) (st8 l n v)
def zqa(l:List SV)(n:Nat)(v:SV):List SV:=Bool.casesOn (motive:=fun _=>List SV) (Nat.blt n 8) (List.casesOn (motive:=fun _=>List SV) l l fun a t1=>List.casesOn (motive:=fun _=>List SV) t1 l fun b t2=>List.casesOn (motive:=fun _=>List SV) t2 l fun c t3=>List.casesOn (motive:=fun _=>List SV) t3 l fun d t4=>List.casesOn (motive:=fun _=>List SV) t4 l fun e t5=>List.casesOn (motive:=fun _=>List SV) t5 l fun f t6=>List.casesOn (motive:=fun _=>List SV) t6 l fun g t7=>List.casesOn (motive:=fun _=>List SV) t7 l fun h t8=>a::b::c::d::e::f::g::h::zp9 t8 (n-8) v) (st8 l n v)
def zqb(l:List SV)(n:Nat)(v:SV):List SV:=Bool.casesOn (motive:=fun _=>List SV) (Nat.blt n 8) (List.casesOn (motive:=fun _=>List SV) l l fun a t1=>List.casesOn (motive:=fun _=>List SV) t1 l fun b t2=>List.casesOn (motive:=fun _=>List SV) t2 l fun c t3=>List.casesOn (motive:=fun _=>List SV) t3 l fun d t4=>List.casesOn (motive:=fun _=>List SV) t4 l fun e t5=>List.casesOn (motive:=fun _=>List SV) t5 l fun f t6=>List.casesOn (motive:=fun _=>List SV) t6 l fun g t7=>List.casesOn (motive:=fun _=>List SV) t7 l fun h t8=>a::b::c::d::e::f::g::h::zqa t8 (n-8) v) (st8 l n v)
def zqc(l:List SV)(n:Nat)(v:SV):List SV:=Bool.casesOn (motive:=fun _=>List SV) (Nat.blt n 8) (List.casesOn (motive:=fun _=>List SV) l l fun a t1=>List.casesOn (motive:=fun _=>List SV) t1 l fun b t2=>List.casesOn (motive:=fun _=>List SV) t2 l fun c t3=>List.casesOn (motive:=fun _=>List SV) t3 l fun d t4=>List.casesOn (motive:=fun _=>List SV) t4 l fun e t5=>List.casesOn (motive:=fun _=>List SV) t5 l fun f t6=>List.casesOn (motive:=fun _=>List SV) t6 l fun g t7=>List.casesOn (motive:=fun _=>List SV) t7 l fun h t8=>a::b::c::d::e::f::g::h::zqb t8 (n-8) v) (st8 l n v)
def zqd(l:List SV)(n:Nat)(v:SV):List SV:=Bool.casesOn (motive:=fun _=>List SV) (Nat.blt n 8) (List.casesOn (motive:=fun _=>List SV) l l fun a t1=>List.casesOn (motive:=fun _=>List SV) t1 l fun b t2=>List.casesOn (motive:=fun _=>List SV) t2 l fun c t3=>List.casesOn (motive:=fun _=>List SV) t3 l fun d t4=>List.casesOn (motive:=fun _=>List SV) t4 l fun e t5=>List.casesOn (motive:=fun _=>List SV) t5 l fun f t6=>List.casesOn (motive:=fun _=>List SV) t6 l fun g t7=>List.casesOn (motive:=fun _=>List SV) t7 l fun h t8=>a::b::c::d::e::f::g::h::zqc t8 (n-8) v) (st8 l n v)
def zqe(l:List SV)(n:Nat)(v:SV):List SV:=Bool.casesOn (motive:=fun _=>List SV) (Nat.blt n 8) (List.casesOn (motive:=fun _=>List SV) l l fun a t1=>List.casesOn (motive:=fun _=>List SV) t1 l fun b t2=>List.casesOn (motive:=fun _=>List SV) t2 l fun c t3=>List.casesOn (motive:=fun _=>List SV) t3 l fun d t4=>List.casesOn (motive:=fun _=>List SV) t4 l fun e t5=>List.casesOn (motive:=fun _=>List SV) t5 l fun f t6=>List.casesOn (motive:=fun _=>List SV) t6 l fun g t7=>List.casesOn (motive:=fun _=>List SV) t7 l fun h t8=>a::b::c::d::e::f::g::h::zqd t8 (n-8) v) (st8 l n v)
def zqf(l:List SV)(n:Nat)(v:SV):List SV:=Bool.casesOn (motive:=fun _=>List SV) (Nat.blt n 8) (List.casesOn (motive:=fun _=>List SV) l l fun a t1=>List.casesOn (motive:=fun _=>List SV) t1 l fun b t2=>List.casesOn (motive:=fun _=>List SV) t2 l fun c t3=>List.casesOn (motive:=fun _=>List SV) t3 l fun d t4=>List.casesOn (motive:=fun _=>List SV) t4 l fun e t5=>List.casesOn (motive:=fun _=>List SV) t5 l fun f t6=>List.casesOn (motive:=fun _=>List SV) t6 l fun g t7=>List.casesOn (motive:=fun _=>List SV) t7 l fun h t8=>a::b::c::d::e::f::g::h::zqe t8 (n-8) v) (st8 l n v)
def zqg(l:List SV)(n:Nat)(v:SV):List SV:=Bool.casesOn (motive:=fun _=>List SV) (Nat.blt n 8) (List.casesOn (motive:=fun _=>List SV) l l fun a t1=>List.casesOn (motive:=fun _=>List SV) t1 l fun b t2=>List.casesOn (motive:=fun _=>List SV) t2 l fun c t3=>List.casesOn (motive:=fun _=>List SV) t3 l fun d t4=>List.casesOn (motive:=fun _=>List SV) t4 l fun e t5=>List.casesOn (motive:=fun _=>List SV) t5 l fun f t6=>List.casesOn (motive:=fun _=>List SV) t6 l fun g t7=>List.casesOn (motive:=fun _=>List SV) t7 l fun h t8=>a::b::c::d::e::f::g::h::zqf t8 (n-8) v) (st8 l n v)
def zqh(l:List SV)(n:Nat)(v:SV):List SV:=Bool.casesOn (motive:=fun _=>List SV) (Nat.blt n 8) (List.casesOn (motive:=fun _=>List SV) l l fun a t1=>List.casesOn (motive:=fun _=>List SV) t1 l fun b t2=>List.casesOn (motive:=fun _=>List SV) t2 l fun c t3=>List.casesOn (motive:=fun _=>List SV) t3 l fun d t4=>List.casesOn (motive:=fun _=>List SV) t4 l fun e t5=>List.casesOn (motive:=fun _=>List SV) t5 l fun f t6=>List.casesOn (motive:=fun _=>List SV) t6 l fun g t7=>List.casesOn (motive:=fun _=>List SV) t7 l fun h t8=>a::b::c::d::e::f::g::h::zqg t8 (n-8) v) (st8 l n v)
def zns(l:List SV)(n:Nat)(v:SV):List SV:=Bool.casesOn (motive:=fun _=>List SV) (Nat.blt n 8) (List.casesOn (motive:=fun _=>List SV) l l fun a t1=>List.casesOn (motive:=fun _=>List SV) t1 l fun b t2=>List.casesOn (motive:=fun _=>List SV) t2 l fun c t3=>List.casesOn (motive:=fun _=>List SV) t3 l fun d t4=>List.casesOn (motive:=fun _=>List SV) t4 l fun e t5=>List.casesOn (motive:=fun _=>List SV) t5 l fun f t6=>List.casesOn (motive:=fun _=>List SV) t6 l fun g t7=>List.casesOn (motive:=fun _=>List SV) t7 l fun h t8=>a::b::c::d::e::f::g::h::zqh t8 (n-8) v) (st8 l n v)
def znt(l:List SV)(n:Nat)(v:SV):List SV:=Bool.casesOn (motive:=fun _=>List SV) (Nat.blt n 8) (List.casesOn (motive:=fun _=>List SV) l l fun a t1=>List.casesOn (motive:=fun _=>List SV) t1 l fun b t2=>List.casesOn (motive:=fun _=>List SV) t2 l fun c t3=>List.casesOn (motive:=fun _=>List SV) t3 l fun d t4=>List.casesOn (motive:=fun _=>List SV) t4 l fun e t5=>List.casesOn (motive:=fun _=>List SV) t5 l fun f t6=>List.casesOn (motive:=fun _=>List SV) t6 l fun g t7=>List.casesOn (motive:=fun _=>List SV) t7 l fun h t8=>a::b::c::d::e::f::g::h::zns t8 (n-8) v) (st8 l n v)
def znu(l:List SV)(n:Nat)(v:SV):List SV:=Bool.casesOn (motive:=fun _=>List SV) (Nat.blt n 8) (List.casesOn (motive:=fun _=>List SV) l l fun a t1=>List.casesOn (motive:=fun _=>List SV) t1 l fun b t2=>List.casesOn (motive:=fun _=>List SV) t2 l fun c t3=>List.casesOn (motive:=fun _=>List SV) t3 l fun d t4=>List.casesOn (motive:=fun _=>List SV) t4 l fun e t5=>List.casesOn (motive:=fun _=>List SV) t5 l fun f t6=>List.casesOn (motive:=fun _=>List SV) t6 l fun g t7=>List.casesOn (motive:=fun _=>List SV) t7 l fun h t8=>a::b::c::d::e::f::g::h::znt t8 (n-8) v) (st8 l n v)
def znv(l:List SV)(n:Nat)(v:SV):List SV:=Bool.casesOn (motive:=fun _=>List SV) (Nat.blt n 8) (List.casesOn (motive:=fun _=>List SV) l l fun a t1=>List.casesOn (motive:=fun _=>List SV) t1 l fun b t2=>List.casesOn (motive:=fun _=>List SV) t2 l fun c t3=>List.casesOn (motive:=fun _=>List SV) t3 l fun d t4=>List.casesOn (motive:=fun _=>List SV) t4 l fun e t5=>List.casesOn (motive:=fun _=>List SV) t5 l fun f t6=>List.casesOn (motive:=fun _=>List SV) t6 l fun g t7=>List.casesOn (motive:=fun _=>List SV) t7 l fun h t8=>a::b::c::d::e::f::g::h::znu t8 (n-8) v) (st8 l n v)
def znw(l:List SV)(n:Nat)(v:SV):List SV:=Bool.casesOn (motive:=fun _=>List SV) (Nat.blt n 8) (List.casesOn (motive:=fun _=>List SV) l l fun a t1=>List.casesOn (motive:=fun _=>List SV) t1 l fun b t2=>List.casesOn (motive:=fun _=>List SV) t2 l fun c t3=>List.casesOn (motive:=fun _=>List SV) t3 l fun d t4=>List.casesOn (motive:=fun _=>List SV) t4 l fun e t5=>List.casesOn (motive:=fun _=>List SV) t5 l fun f t6=>List.casesOn (motive:=fun _=>List SV) t6 l fun g t7=>List.casesOn (motive:=fun _=>List SV) t7 l fun h t8=>a::b::c::d::e::f::g::h::znv t8 (n-8) v) (st8 l n v)
def sset(l:List SV)(n:Nat)(v:SV):List SV:=Bool.casesOn (motive:=fun _=>List SV) (Nat.blt n 8) (List.casesOn (motive:=fun _=>List SV) l l fun a t1=>List.casesOn (motive:=fun _=>List SV) t1 l fun b t2=>List.casesOn (motive:=fun _=>List SV) t2 l fun c t3=>List.casesOn (motive:=fun _=>List SV) t3 l fun d t4=>List.casesOn (motive:=fun _=>List SV) t4 l fun e t5=>List.casesOn (motive:=fun _=>List SV) t5 l fun f t6=>List.casesOn (motive:=fun _=>List SV) t6 l fun g t7=>List.casesOn (motive:=fun _=>List SV) t7 l fun h t8=>a::b::c::d::e::f::g::h::znw t8 (n-8) v) (st8 l n v)
theorem zri(n:Nat):Nat.blt (n+8) 8=false:=by
 cases h:Nat.blt (n+8) 8 with
 |false=>rfl
 |true=>rw[Nat.blt_eq] at h;omega
theorem zoS(l:List SV)(n:Nat):(tl8 l)[n]?=l[n+8]?:=match l with
 | []=>rfl
 | [a]=>rfl
 | [a,b]=>rfl
 | [a,b,c]=>rfl
 | [a,b,c,d]=>rfl
 | [a,b,c,d,e]=>rfl
 | [a,b,c,d,e,f]=>rfl
 | [a,b,c,d,e,f,g]=>rfl
 |a::b::c::d::e::f::g::h::t=>rfl
theorem qC{f:List SV->Nat->Option SV}(hf:∀ l n,f l n=l[n]?)(l:List SV)(n:Nat):(Bool.casesOn (motive:=fun _=>Option SV) (Nat.blt n 8) (f (tl8 l) (n-8)) (gt8 l n):Option SV)=l[n]?:=match n with
 |0=>match l with
  | []=>rfl
  | [a]=>rfl
  | [a,b]=>rfl
  | [a,b,c]=>rfl
  | [a,b,c,d]=>rfl
  | [a,b,c,d,e]=>rfl
  | [a,b,c,d,e,f]=>rfl
  | [a,b,c,d,e,f,g]=>rfl
  |a::b::c::d::e::f::g::h::t=>rfl
 |1=>match l with
  | []=>rfl
  | [a]=>rfl
  | [a,b]=>rfl
  | [a,b,c]=>rfl
  | [a,b,c,d]=>rfl
  | [a,b,c,d,e]=>rfl
  | [a,b,c,d,e,f]=>rfl
  | [a,b,c,d,e,f,g]=>rfl
  |a::b::c::d::e::f::g::h::t=>rfl
 |2=>match l with
  | []=>rfl
  | [a]=>rfl
  | [a,b]=>rfl
  | [a,b,c]=>rfl
  | [a,b,c,d]=>rfl
  | [a,b,c,d,e]=>rfl
  | [a,b,c,d,e,f]=>rfl
  | [a,b,c,d,e,f,g]=>rfl
  |a::b::c::d::e::f::g::h::t=>rfl
 |3=>match l with
  | []=>rfl
  | [a]=>rfl
  | [a,b]=>rfl
  | [a,b,c]=>rfl
  | [a,b,c,d]=>rfl
  | [a,b,c,d,e]=>rfl
  | [a,b,c,d,e,f]=>rfl
  | [a,b,c,d,e,f,g]=>rfl
  |a::b::c::d::e::f::g::h::t=>rfl
 |4=>match l with
  | []=>rfl
  | [a]=>rfl
  | [a,b]=>rfl
  | [a,b,c]=>rfl
  | [a,b,c,d]=>rfl
  | [a,b,c,d,e]=>rfl
  | [a,b,c,d,e,f]=>rfl
  | [a,b,c,d,e,f,g]=>rfl
  |a::b::c::d::e::f::g::h::t=>rfl
 |5=>match l with
  | []=>rfl
  | [a]=>rfl
  | [a,b]=>rfl
  | [a,b,c]=>rfl
  | [a,b,c,d]=>rfl
  | [a,b,c,d,e]=>rfl
  | [a,b,c,d,e,f]=>rfl
  | [a,b,c,d,e,f,g]=>rfl
  |a::b::c::d::e::f::g::h::t=>rfl
 |6=>match l with
  | []=>rfl
  | [a]=>rfl
  | [a,b]=>rfl
  | [a,b,c]=>rfl
  | [a,b,c,d]=>rfl
  | [a,b,c,d,e]=>rfl
  | [a,b,c,d,e,f]=>rfl
  | [a,b,c,d,e,f,g]=>rfl
  |a::b::c::d::e::f::g::h::t=>rfl
 |7=>match l with
  | []=>rfl
  | [a]=>rfl
  | [a,b]=>rfl
  | [a,b,c]=>rfl
  | [a,b,c,d]=>rfl
  | [a,b,c,d,e]=>rfl
  | [a,b,c,d,e,f]=>rfl
  | [a,b,c,d,e,f,g]=>rfl
  |a::b::c::d::e::f::g::h::t=>rfl
 |n+8=>by rw[zri];show f (tl8 l) (n+8-8)=_;rw[Nat.add_sub_cancel,hf,zoS]
theorem zms(l:List SV)(n:Nat):zpX l n=l[n]?:=qC (fun _ _=>rfl) l n
theorem zmt(l:List SV)(n:Nat):zpY l n=l[n]?:=qC zms l n
theorem zmu(l:List SV)(n:Nat):zpZ l n=l[n]?:=qC zmt l n
theorem zmv(l:List SV)(n:Nat):zp0 l n=l[n]?:=qC zmu l n
theorem zmw(l:List SV)(n:Nat):zp1 l n=l[n]?:=qC zmv l n
theorem zmx(l:List SV)(n:Nat):zp2 l n=l[n]?:=qC zmw l n
theorem zmy(l:List SV)(n:Nat):zp3 l n=l[n]?:=qC zmx l n
theorem zmz(l:List SV)(n:Nat):zp4 l n=l[n]?:=qC zmy l n
theorem zmA(l:List SV)(n:Nat):zp5 l n=l[n]?:=qC zmz l n
theorem zmB(l:List SV)(n:Nat):zp6 l n=l[n]?:=qC zmA l n
theorem zkT(l:List SV)(n:Nat):znm l n=l[n]?:=qC zmB l n
theorem zkU(l:List SV)(n:Nat):znn l n=l[n]?:=qC zkT l n
theorem zkV(l:List SV)(n:Nat):zno l n=l[n]?:=qC zkU l n
theorem zkW(l:List SV)(n:Nat):znp l n=l[n]?:=qC zkV l n
theorem zkX(l:List SV)(n:Nat):znq l n=l[n]?:=qC zkW l n
theorem xq(l:List SV)(n:Nat):zmr l n=l[n]?:=qC zkX l n
theorem qD{F:List SV->Nat->SV->List SV}(hf:∀ l n v,F l n v=l.set n v)(l:List SV)(n:Nat)(v:SV):(Bool.casesOn (motive:=fun _=>List SV) (Nat.blt n 8) (List.casesOn (motive:=fun _=>List SV) l l fun a t1=>List.casesOn (motive:=fun _=>List SV) t1 l fun b t2=>List.casesOn (motive:=fun _=>List SV) t2 l fun c t3=>List.casesOn (motive:=fun _=>List SV) t3 l fun d t4=>List.casesOn (motive:=fun _=>List SV) t4 l fun e t5=>List.casesOn (motive:=fun _=>List SV) t5 l fun f t6=>List.casesOn (motive:=fun _=>List SV) t6 l fun g t7=>List.casesOn (motive:=fun _=>List SV) t7 l fun h t8=>a::b::c::d::e::f::g::h::F t8 (n-8) v) (st8 l n v):List SV)=l.set n v:=match n with
 |0=>match l with
  | []=>rfl
  | [a]=>rfl
  | [a,b]=>rfl
  | [a,b,c]=>rfl
  | [a,b,c,d]=>rfl
  | [a,b,c,d,e]=>rfl
  | [a,b,c,d,e,f]=>rfl
  | [a,b,c,d,e,f,g]=>rfl
  |a::b::c::d::e::f::g::h::t=>rfl
 |1=>match l with
  | []=>rfl
  | [a]=>rfl
  | [a,b]=>rfl
  | [a,b,c]=>rfl
  | [a,b,c,d]=>rfl
  | [a,b,c,d,e]=>rfl
  | [a,b,c,d,e,f]=>rfl
  | [a,b,c,d,e,f,g]=>rfl
  |a::b::c::d::e::f::g::h::t=>rfl
 |2=>match l with
  | []=>rfl
  | [a]=>rfl
  | [a,b]=>rfl
  | [a,b,c]=>rfl
  | [a,b,c,d]=>rfl
  | [a,b,c,d,e]=>rfl
  | [a,b,c,d,e,f]=>rfl
  | [a,b,c,d,e,f,g]=>rfl
  |a::b::c::d::e::f::g::h::t=>rfl
 |3=>match l with
  | []=>rfl
  | [a]=>rfl
  | [a,b]=>rfl
  | [a,b,c]=>rfl
  | [a,b,c,d]=>rfl
  | [a,b,c,d,e]=>rfl
  | [a,b,c,d,e,f]=>rfl
  | [a,b,c,d,e,f,g]=>rfl
  |a::b::c::d::e::f::g::h::t=>rfl
 |4=>match l with
  | []=>rfl
  | [a]=>rfl
  | [a,b]=>rfl
  | [a,b,c]=>rfl
  | [a,b,c,d]=>rfl
  | [a,b,c,d,e]=>rfl
  | [a,b,c,d,e,f]=>rfl
  | [a,b,c,d,e,f,g]=>rfl
  |a::b::c::d::e::f::g::h::t=>rfl
 |5=>match l with
  | []=>rfl
  | [a]=>rfl
  | [a,b]=>rfl
  | [a,b,c]=>rfl
  | [a,b,c,d]=>rfl
  | [a,b,c,d,e]=>rfl
  | [a,b,c,d,e,f]=>rfl
  | [a,b,c,d,e,f,g]=>rfl
  |a::b::c::d::e::f::g::h::t=>rfl
 |6=>match l with
  | []=>rfl
  | [a]=>rfl
  | [a,b]=>rfl
  | [a,b,c]=>rfl
  | [a,b,c,d]=>rfl
  | [a,b,c,d,e]=>rfl
  | [a,b,c,d,e,f]=>rfl
  | [a,b,c,d,e,f,g]=>rfl
  |a::b::c::d::e::f::g::h::t=>rfl
 |7=>match l with
  | []=>rfl
  | [a]=>rfl
  | [a,b]=>rfl
  | [a,b,c]=>rfl
  | [a,b,c,d]=>rfl
  | [a,b,c,d,e]=>rfl
  | [a,b,c,d,e,f]=>rfl
  | [a,b,c,d,e,f,g]=>rfl
  |a::b::c::d::e::f::g::h::t=>rfl
 |n+8=>by
  rw[zri]
  exact match l with
  | []=>rfl
  | [a]=>rfl
  | [a,b]=>rfl
  | [a,b,c]=>rfl
  | [a,b,c,d]=>rfl
  | [a,b,c,d,e]=>rfl
  | [a,b,c,d,e,f]=>rfl
  | [a,b,c,d,e,f,g]=>rfl
  |a::b::c::d::e::f::g::h::t=>by show a::b::c::d::e::f::g::h::F t (n+8-8) v=_;rw[Nat.add_sub_cancel,hf];rfl
theorem zmD(l:List SV)(n:Nat)(v:SV):zp8 l n v=l.set n v:=qD (fun _ _ _=>rfl) l n v
theorem zmE(l:List SV)(n:Nat)(v:SV):zp9 l n v=l.set n v:=qD zmD l n v
theorem zmF(l:List SV)(n:Nat)(v:SV):zqa l n v=l.set n v:=qD zmE l n v
theorem zmG(l:List SV)(n:Nat)(v:SV):zqb l n v=l.set n v:=qD zmF l n v
theorem zmH(l:List SV)(n:Nat)(v:SV):zqc l n v=l.set n v:=qD zmG l n v
theorem zmI(l:List SV)(n:Nat)(v:SV):zqd l n v=l.set n v:=qD zmH l n v
theorem zmJ(l:List SV)(n:Nat)(v:SV):zqe l n v=l.set n v:=qD zmI l n v
theorem zmK(l:List SV)(n:Nat)(v:SV):zqf l n v=l.set n v:=qD zmJ l n v
theorem zmL(l:List SV)(n:Nat)(v:SV):zqg l n v=l.set n v:=qD zmK l n v
theorem zmM(l:List SV)(n:Nat)(v:SV):zqh l n v=l.set n v:=qD zmL l n v
theorem zk6(l:List SV)(n:Nat)(v:SV):zns l n v=l.set n v:=qD zmM l n v
theorem zk7(l:List SV)(n:Nat)(v:SV):znt l n v=l.set n v:=qD zk6 l n v
theorem zk8(l:List SV)(n:Nat)(v:SV):znu l n v=l.set n v:=qD zk7 l n v
theorem zk9(l:List SV)(n:Nat)(v:SV):znv l n v=l.set n v:=qD zk8 l n v
theorem zla(l:List SV)(n:Nat)(v:SV):znw l n v=l.set n v:=qD zk9 l n v
theorem zhm(l:List SV)(n:Nat)(v:SV):sset l n v=l.set n v:=qD zla l n v
def sev(gl:GL)(env:List SV):Operand->Option SV
 |.tmp t=>zmr env t
 |.const v=>match ofConst v with
  |some x=>zqw x
  |none=>none
 |.global g=>match gl[g]? with
  |some (some cs)=>some (.zdD g 0 cs.length)
  |_=>none
 |.func f=>some (.fn f [] [])
def zlF(e:Operand->Option SV):List Operand->Option (List SV)
 | []=>some []
 |x::l=>match e x,zlF e l with
  |some v,some vs=>some (v::vs)
  |_,_=>none
section
variable {P:Program} {gl:GL} {X:Gst}
theorem zc6{env:List SV}{me:Arr AV}(he:RVs X env me.toL)(hg:RGl P gl X){o:Operand}{v:SV}(h:sev gl env o=some v):∃ x,mev P me X.h o=some x/\RV X v x:=by
 cases o with
 |tmp t=>obtain⟨x,h1,h2⟩:=he.get ((xq env t).symm.trans h);exact⟨x,Arr.zS.symm.trans h1,h2⟩
 |const c=>
  simp only[sev] at h
  split at h
  ·rename_i x hx;exact⟨x,hx,zdO h⟩
  ·cases h
 |global g=>
  simp only[sev] at h
  split at h
  ·rename_i cs hcs
   cases h
   obtain⟨h1,_,cells,h2,h3⟩:=hg g cs hcs
   exact⟨_,by simp only[mev];rw[if_pos h1,h2],by show _=_;rw[h3.length]⟩
  ·cases h
 |func f=>cases h;exact⟨_,rfl,_,_,rfl,rfl,rfl⟩
def EvR(X:Gst)(e:Operand->Option SV)(m:Operand->Option AV):Prop:=∀ o v,e o=some v->∃ x,m o=some x/\RV X v x
variable {e:Operand->Option SV} {m:Operand->Option AV}
theorem j6(he:EvR X e m){l:List Operand}{vs:List SV}(h:zlF e l=some vs):∃ xs,zdp m l=some xs/\RVs X vs xs:=by
 induction l generalizing vs with
 |nil=>cases h;exact⟨[],rfl,rfl⟩
 |cons o l ih=>
  simp only[zlF] at h
  split at h
  ·rename_i v vs' h1 h2
   cases h
   obtain⟨x,h3,h4⟩:=he _ _ h1
   obtain⟨xs,h5,h6⟩:=ih h2
   exact⟨x::xs,by simp only[zdp,h3,h5],x,xs,rfl,h4,h6⟩
  ·cases h
def SRR(X:Gst):SR->Rs->Prop
 |.val v sh,.val x h=>∃ Y,Stp X Y/\Y.sh=sh/\Y.h=h/\RV Y v x
 |.unit sh,.unit h=>∃ Y,Stp X Y/\Y.sh=sh/\Y.h=h
 |.call (.inl f) a,.call (.f f') b=>f=f'/\RVs X a b
 |.call (.inr loc) a,.call (.y m) b=>X.at loc m/\RVs X a b
 |.dfr f a c,.dfr f' a' c'=>f=f'/\RVs X a a'/\RVs X c c'
 |_,_=>False
theorem SRR.same(hr:RH X){v:SV}{x:AV}(h:RV X v x):SRR X (.val v X.sh) (.val x X.h):=⟨X,.refl hr,rfl,rfl,h⟩
def kq(gl:GL)(h:SH)(n:Nat):SV->Option (List SV)
 |.ptr loc off lim=>match h[loc]?,Nat.ble (off+n) lim with
  |some (.cells l _ _),true=>some ((l.drop off).take n)
  |_,_=>none
 |.zea loc k i fo=>match h[loc]? with
  |some (.seq u l k' _)=>match Nat.beq k' k,Nat.ble (fo+n) u.sz with
   |true,true=>some (((enc u (nth u l i)).drop fo).take n)
   |_,_=>none
  |_=>none
 |.zcP u x fo=>match Nat.ble (fo+n) u.sz with
  |true=>some (((enc u x).drop fo).take n)
  |false=>none
 |.zdD g off lim=>match gl[g]?,Nat.ble (off+n) lim with
  |some (some l),true=>some ((l.drop off).take n)
  |_,_=>none
 |_=>none
theorem wV{u:U}{l:List (El u)}{i:Nat}(h:i<l.length):l[i]?=some (nth u l i):=by
 unfold nth;rw[List.getD_eq_getElem?_getD,List.getElem?_eq_getElem h];rfl
theorem zaG(hr:RH X)(hg:RGl P gl X){n:Nat}{p:SV}{x:AV}{vs:List SV}(hp:RV X p x)(h:kq gl X.sh n p=some vs):
  ∃ loc off ver lim xs,x=.ptr loc off ver lim/\rd X.h loc off ver lim n=some xs/\RVs X vs xs:=by
 unfold kq at h
 split at h
 ·split at h
  ·rename_i loc off lim _ _ l md mk hb hle
   cases h
   obtain⟨m,⟨v,hσ⟩,rfl⟩:=hp
   obtain⟨m',l',tt,e,h1,h2⟩:=hr.blk _ _ _ hb hσ
   cases e
   exact⟨m,off,0,lim,_,rfl,zc2 h1 (Nat.le_refl _) _ _ _ (Nat.le_of_ble_eq_true hle),(h2.drop _).take _⟩
  ·cases h
 ·split at h
  ·rename_i loc k i fo _ u l k' md hb
   split at h
   ·rename_i hk hle
    cases h
    cases zb hk
    have hle:=Nat.le_of_ble_eq_true hle
    obtain⟨hone,o,ho,hc⟩:=hp
    obtain⟨hi,m,ver,lim,rfl,rfl,hlim⟩:=(hc _ _ _ _ hb).2 rfl
    obtain⟨cells,minv,tt,q1,q2,q3,q4⟩:=hr.blk _ _ _ hb ho
    have hE:=wu (q3.2 i _ (wV hi))
    refine⟨m,_,ver,lim,_,rfl,zc2 q1 q2 _ _ _ ?_,?_⟩
    ·rw[Nat.succ_mul] at hlim;omega
    ·have:=(hE.drop fo).take n
     rw[zN,List.drop_take,List.drop_drop,List.take_take,Nat.min_eq_left (by omega)] at this
     exact this
   ·cases h
  ·cases h
 ·split at h
  ·rename_i u e fo _ hle
   cases h
   have hle:=Nat.le_of_ble_eq_true hle
   obtain⟨m,off,ver,lim,cs,rfl,h1,h2,⟨lim',h3⟩,h4,h5⟩:=hp
   refine⟨m,off+fo,ver,lim,(cs.drop fo).take n,rfl,?_,((wu h5).drop fo).take n⟩
   unfold rd at h3 |-
   split at h3
   ·rename_i cells v minv frz ro tt hb
    split at h3
    ·rename_i hc
     cases h3
     rw[if_pos ⟨hc.1,by omega⟩,List.drop_take,List.drop_drop,List.take_take,Nat.min_eq_left (by omega)]
    ·cases h3
   ·rename_i cells hb
    split at h3
    ·cases h3
     rw[if_pos (by omega),List.drop_take,List.drop_drop,List.take_take,Nat.min_eq_left (by omega)]
    ·cases h3
   ·cases h3
  ·cases h
 ·split at h
  ·rename_i g off lim _ _ l hgl hle
   cases h
   cases(show x=_ from hp)
   obtain⟨_,_,cells,h2,h3⟩:=hg g l hgl
   refine⟨g,off,0,lim,(cells.drop off).take n,rfl,?_,((h3.le (znF hr.len)).drop off).take n⟩
   unfold rd;rw[h2];simp only
   rw[if_pos (Nat.le_of_ble_eq_true hle)]
  ·cases h
 ·cases h
def zhg(P:Program)(gl:GL)(h:SH)(t:TypeId)(p:SV):Option SV:=match zeV P t,wI P t with
 |some true,some n=>match kq gl h n p with
  |some cs=>some (.agg cs)
  |none=>none
 |some false,_=>match kq gl h 1 p with
  |some [v]=>some v
  |_=>none
 |_,_=>none
theorem zc7(hr:RH X)(hg:RGl P gl X){t:TypeId}{p v:SV}{x:AV}(hp:RV X p x)(h:zhg P gl X.sh t p=some v):∃ loc off ver lim,x=.ptr loc off ver lim/\∃ y,RV X v y /\
  ((∃ n cs,zeV P t=some true/\wI P t=some n/\rd X.h loc off ver lim n=some cs/\y=.agg cs)\/(zeV P t=some false/\rd X.h loc off ver lim 1=some [y])):=by
 unfold zhg at h
 split at h
 ·rename_i n ha hs
  split at h
  ·rename_i cs hc
   cases h
   obtain⟨loc,off,ver,lim,xs,rfl,h1,h2⟩:=zaG hr hg hp hc
   exact⟨loc,off,ver,lim,rfl,.agg xs,⟨xs,rfl,h2⟩,.inl ⟨n,xs,ha,hs,h1,rfl⟩⟩
  ·cases h
 ·rename_i ha
  split at h
  ·rename_i w hc
   cases h
   obtain⟨loc,off,ver,lim,xs,rfl,h1,h2⟩:=zaG hr hg hp hc
   obtain⟨y,t',rfl,h3,h4⟩:=h2
   cases(show t'=[] from h4)
   exact⟨loc,off,ver,lim,rfl,y,h3,.inr ⟨ha,h1⟩⟩
  ·cases h
 ·cases h
theorem ziu(hr:RH X)(hg:RGl P gl X)(he:EvR X e m){t:TypeId}{o:Operand}{p v:SV}(hp:e o=some p)(h:zhg P gl X.sh t p=some v):∃ rs,mop P m X.h (.load t o)=some rs/\SRR X (.val v X.sh) rs:=by
 obtain⟨x,hx,hq⟩:=he _ _ hp
 obtain⟨loc,off,ver,lim,rfl,y,hy,⟨n,cs,h1,h2,h3,rfl⟩|⟨h1,h3⟩⟩:=zc7 hr hg hq h
 ·exact⟨_,by simp only[mop,hx,h1,h2,h3],.same hr hy⟩
 ·exact⟨_,by simp only[mop,hx,h1,h3],.same hr hy⟩
def zfI(vs:List SV):Bool:=vs.all SV.one
theorem RVs.zfI{vs:List SV}{xs:List AV}(h:RVs X vs xs)(ho:zfI vs=true):xs.all AV.one=true:=by
 induction vs generalizing xs with
 |nil=>cases(show xs=[] from h);rfl
 |cons v vs ih=>
  obtain⟨x,t,rfl,h1,h2⟩:=h
  simp only[Sx.zfI,List.all_cons,Bool.and_eq_true] at ho
  simp only[List.all_cons,Bool.and_eq_true]
  exact⟨h1.one ho.1,ih h2 ho.2⟩
def zez(h:SH)(vs:List SV):SV->Option SH
 |.ptr loc off lim=>match h[loc]?,Nat.ble (off+vs.length) lim,zfI vs with
  |some (.cells l 0 mk),true,true=>some (h.set loc (.cells (l.take off++vs++l.drop (off+vs.length)) 0 mk))
  |_,_,_=>none
 |.zea loc k i fo=>match h[loc]? with
  |some (.seq u l k' 0)=>match Nat.beq k' k,Nat.ble (fo+vs.length) u.sz,zfI vs with
   |true,true,true=>match dec u ((enc u (nth u l i)).take fo++vs++(enc u (nth u l i)).drop (fo+vs.length)) h with
    |some (x,[],h')=>match h'[loc]? with
     |some (.seq _ _ k2 0)=>match Nat.beq k2 k with
      |true=>some (h'.set loc (.seq u (l.set i x) k 0))
      |false=>none
     |_=>none
    |_=>none
   |_,_,_=>none
  |_=>none
 |_=>none
theorem z7{α:Type}{l:List α}{i:Nat}{x:α}(h:l[i]?=some x):l.set i x=l:=by
 refine List.ext_getElem? fun j=>?_
 rw[List.getElem?_set]
 split
 ·subst j;rw[if_pos (List.getElem?_eq_some_iff.1 h).1,h]
 ·rfl
theorem RCs.set{h:za}{Φ:Nat->Prop}{u:U}{l:List (El u)}{cs c:List AV}{i:Nat}{e:El u}(q:RCs h Φ u l cs)(hi:i<l.length)(hc:RE h Φ u e c):RCs h Φ u (l.set i e) (cs.take (i*u.sz)++c++cs.drop (i*u.sz+u.sz)):=by
 have hm:i*u.sz+u.sz<=l.length*u.sz:=by rw[<- Nat.succ_mul];exact Nat.mul_le_mul_right _ hi
 have hlen:=q.1
 have hcl:=hc.length
 refine⟨by rw[List.length_set,List.length_append,List.length_append,List.length_take,List.length_drop,hcl];omega,fun j e' hj=>?_⟩
 rcases zw hj with⟨rfl,rfl⟩|⟨hne,hj⟩
 ·rw[zN,List.append_assoc,List.drop_append,List.length_take,hlen,Nat.min_eq_left (by omega),List.drop_of_length_le (by rw[List.length_take];omega),List.nil_append,Nat.sub_self,List.drop_zero,List.take_append_of_le_length (by omega),List.take_of_length_le (by omega)]
  exact hc
 ·have hjl:=(List.getElem?_eq_some_iff.1 hj).1
  have h1:=q.2 j e' hj
  rw[zN] at h1 |-
  rcases Nat.lt_or_gt_of_ne hne with hlt|hgt
  ·have:j*u.sz+u.sz<=i*u.sz:=by rw[<- Nat.succ_mul];exact Nat.mul_le_mul_right _ hlt
   rw[List.append_assoc,List.drop_append_of_le_length (by rw[List.length_take];omega),List.take_append_of_le_length (by rw[List.length_drop,List.length_take];omega),List.drop_take,List.take_take,Nat.min_eq_left (by omega)]
   exact h1
  ·have:i*u.sz+u.sz<=j*u.sz:=by rw[<- Nat.succ_mul];exact Nat.mul_le_mul_right _ hgt
   rw[List.drop_append,List.drop_of_length_le (by rw[List.length_append,List.length_take,hcl];omega),List.nil_append,List.length_append,List.length_take,hcl,List.drop_drop,Nat.min_eq_left (by omega),show i*u.sz+u.sz+(j*u.sz-(i*u.sz+u.sz))=j*u.sz from by omega]
   exact h1
theorem zdr(hr:RH X){p:SV}{x:AV}{vs:List SV}{xs:List AV}{sh':SH}(hp:RV X p x)(hv:RVs X vs xs)(h:zez X.sh vs p=some sh'):
  ∃ loc off ver lim h',x=.ptr loc off ver lim/\wr X.h loc off ver lim xs=some h'/\∃ Y,Stp X Y/\Y.sh=sh'/\Y.h=h':=by
 unfold zez at h
 split at h
 ·split at h
  ·rename_i loc off lim _ _ _ l mk hb hle hones
   cases h
   have hle:=Nat.le_of_ble_eq_true hle
   obtain⟨m,⟨v,hσ⟩,rfl⟩:=hp
   obtain⟨m',l',tt,e,h1,h2⟩:=hr.blk _ _ _ hb hσ
   cases e
   have hm:=hr.lt _ _ _ hσ
   have hxl:=hv.length
   have hk:(X.h.set m (.row (l'.take off++xs++l'.drop (off+xs.length)) 0 0 0 false (mk.or tt)))[m]?=some (.row (l'.take off++xs++l'.drop (off+xs.length)) 0 0 0 false (mk.or tt)):=Arr.zj hm
   refine⟨m,off,0,lim,X.h.set m (.row (l'.take off++xs++l'.drop (off+xs.length)) 0 0 0 false (mk.or tt)),rfl,?_,⟨X.h.set m (.row (l'.take off++xs++l'.drop (off+xs.length)) 0 0 0 false (mk.or tt)),X.Φ,X.σ,X.sh.set loc (.cells (l.take off++vs++l.drop (off+vs.length)) 0 mk)⟩,?_,rfl,rfl⟩
   ·unfold wr;rw[h1];simp only
    rw[if_pos ⟨trivial,Nat.zero_le _,by omega,hv.zfI hones⟩]
   ·refine Stp.turn hr hb hσ (by simp) (fun m' hm' hne=>Arr.zk fun e=>hne 0 (e ▸ rfl)) (fun _ _ _=>.inr rfl) (by show _<=(X.h.set _ _).length;rw[Arr.length_set];exact Nat.le_refl _)
     (fun m=>⟨.inl,fun h=>h.elim id fun h=>by cases h.1⟩) (z7 hσ).symm rfl (fun m' v' e=>by cases e;exact⟨by show _<(X.h.set _ _).length;rw[Arr.length_set];exact hm,.inl ⟨_,rfl⟩⟩) (fun m v e=>⟨v,e⟩) (fun _ _ _ _ e=>by cases e)
     (fun h=>h) (fun h=>h.elim (fun h=>by cases h) fun h=>by cases h) fun hle'=>?_
    refine⟨m,_,tt,rfl,hk,?_⟩
    have hd:RVs X (l.drop (off+vs.length)) (l'.drop (off+xs.length)):=by rw[hxl];exact h2.drop _
    exact(((h2.le hle').take off).append (hv.le hle')).append (hd.le hle')
  ·cases h
 ·split at h
  ·rename_i loc k i fo _ u l k' hb
   split at h
   ·rename_i hk hle hones
    have hk:=zb hk
    subst hk
    have hle:=Nat.le_of_ble_eq_true hle
    split at h
    ·rename_i y h1 hd
     split at h
     ·rename_i u2 l2 k2 hb2
      split at h
      ·rename_i hk2
       cases h
       have hk2:=zb hk2
       subst hk2
       obtain⟨hone,o,ho,hc⟩:=hp
       obtain⟨hi,m,ver,lim,rfl,rfl,hlim⟩:=(hc _ _ _ _ hb).2 rfl
       obtain⟨cells,minv,tt,q1,q2,q3,q4⟩:=hr.blk _ _ _ hb ho
       have hm:=hr.lt _ _ _ ho
       have hxl:=hv.length
       have hE:=wu (q3.2 i _ (wV hi))
       have hR:RVs X ((enc u (nth u l i)).take fo++vs++(enc u (nth u l i)).drop (fo+vs.length)) ((part u.sz cells i).take fo++xs++(part u.sz cells i).drop (fo+vs.length)):=((hE.take _).append hv).append (hE.drop _)
       obtain⟨Y,c1,c2,S1,hh1,hs1,he1,hRE,hr2⟩:=kV u hr hR hd
       cases(show c2=[] from hr2)
       rw[List.append_nil] at he1
       subst he1
       rw[<- hs1] at hb2
       obtain⟨l',k'',md',e1,e2,e3⟩:=S1.le.seq loc u2 l2 k2 0 (List.getElem?_eq_some_iff.1 hb).1 hb2
       rw[hb] at e1
       cases e1
       obtain⟨e4,e5⟩:=e3 rfl
       have hσY:=e5.trans ho
       have hmi:i*u.sz+u.sz<=l.length*u.sz:=by rw[<- Nat.succ_mul];exact Nat.mul_le_mul_right _ hi
       have hcl:=q3.1
       have hlim':i*u.sz+fo+xs.length<=lim:=by rw[Nat.succ_mul] at hlim;omega
       have hlist:cells.take (i*u.sz+fo)++xs++cells.drop (i*u.sz+fo+xs.length)=cells.take (i*u.sz)++((part u.sz cells i).take fo++xs++(part u.sz cells i).drop (fo+vs.length))++cells.drop (i*u.sz+u.sz):=by
        rw[zN,List.take_take,Nat.min_eq_left (by omega),List.drop_take,List.drop_drop,List.take_add]
        simp only[List.append_assoc]
        refine congrArg _ (congrArg _ (congrArg _ ?_))
        rw[<- List.take_append_drop (u.sz-(fo+vs.length)) (cells.drop (i*u.sz+fo+xs.length)),List.drop_drop,hxl,Nat.add_assoc,Nat.add_assoc]
        congr 2
        omega
       refine⟨m,i*u.sz+fo,ver,lim,X.h.set m (.row (cells.take (i*u.sz+fo)++xs++cells.drop (i*u.sz+fo+xs.length)) ver ver 0 false ((mkS k2).or tt)),rfl,?_,⟨X.h.set m (.row (cells.take (i*u.sz+fo)++xs++cells.drop (i*u.sz+fo+xs.length)) ver ver 0 false ((mkS k2).or tt)),Y.Φ,Y.σ,Y.sh.set loc (.seq u (l.set i y) k2 0)⟩,S1.trans ?_,by rw[<- hs1],rfl⟩
       ·unfold wr;rw[q1];simp only
        rw[if_pos ⟨trivial,Nat.zero_le _,hlim',hv.zfI hones⟩]
       ·refine Stp.turn S1.hr hb2 hσY (by simp) (fun m' hm' hne=>by rw[hh1];exact Arr.zk fun e=>hne ver (e ▸ rfl)) (fun _ _ _=>.inr rfl) (by show _<=(X.h.set _ _).length;rw[Arr.length_set,hh1];exact Nat.le_refl _)
         (fun m=>⟨.inl,fun h=>h.elim id fun h=>by cases h.1⟩) (z7 hσY).symm rfl (fun m' v' e=>by cases e;exact⟨by show _<(X.h.set _ _).length;rw[Arr.length_set];exact hm,.inl ⟨_,rfl⟩⟩) (fun m v e=>⟨v,e⟩) (fun u3 l3 k3 md3 e=>by cases e;exact⟨l2,k2,0,rfl,Nat.le_refl _,fun _=>⟨by rw[List.length_set];exact e4.symm,rfl⟩⟩)
         (fun h=>h) (fun h=>h.elim (fun h=>by cases h) fun h=>by cases h) fun hle'=>?_
        refine⟨_,ver,tt,Arr.zj hm,Nat.le_refl _,?_,fun e=>by cases e⟩
        have:=((q3.le S1.le.h S1.le.Φ).le hle'.h hle'.Φ).set hi (hRE.le hle'.h hle'.Φ)
        rwa [<- hlist] at this
      ·cases h
     ·cases h
    ·cases h
   ·cases h
  ·cases h
 ·cases h
end
end Go.Sx
namespace Go.Sx
open Go Go.Gx Go.Mx
variable [qE]
section
variable {P:Program} {gl:GL} {X:Gst} {e:Operand->Option SV} {m:Operand->Option AV}
def sb8(op:BinOp)(a b:UInt8):Option SV:=match op with
 |.add=>some (.u8 (a+b))
 |.sub=>some (.u8 (a-b))
 |.and=>some (.u8 (a &&& b))
 |.or=>some (.u8 (a ||| b))
 |.xor=>some (.u8 (a ^^^ b))
 |.andNot=>some (.u8 (a &&& ~~~b))
 |.lss=>some (.a (.bool (decide (a<b))))
 |.leq=>some (.a (.bool (decide (a<=b))))
 |.gtr=>some (.a (.bool (decide (b<a))))
 |.geq=>some (.a (.bool (decide (b<=a))))
 |.eql=>some (.a (.bool (a==b)))
 |.neq=>some (.a (.bool (a != b)))
 |_=>none
theorem zkN{op:BinOp}{a b:UInt8}{v:SV}(h:sb8 op a b=some v):∃ x,zlD op .u8 (a.toNat:Int) (b.toNat:Int)=some x/\RV X v x:=by
 unfold sb8 at h
 split at h<;>cases h
 ·exact⟨_,rfl,congrArg (AV.int .u8) (by rw[IntKind.wrap_u8,UInt8.toNat_add];omega)⟩
 ·exact⟨_,rfl,by show _=_;congr 1;have:=a.toNat_lt;have:=b.toNat_lt;rw[IntKind.wrap_u8,UInt8.toNat_sub];omega⟩
 ·exact⟨_,rfl,by show _=_;congr 1;unfold zb8;simp only[IntKind.bits,zqD];exact zf7 (a &&& b)⟩
 ·exact⟨_,rfl,by show _=_;congr 1;unfold zb8;simp only[IntKind.bits,zqD];exact zf7 (a ||| b)⟩
 ·exact⟨_,rfl,by show _=_;congr 1;unfold zb8;simp only[IntKind.bits,zqD];exact zf7 (a ^^^ b)⟩
 ·exact⟨_,rfl,by show _=_;congr 1;unfold zb8;simp only[IntKind.bits,zqD];exact zf7 (a &&& ~~~ b)⟩
 ·exact⟨_,rfl,by show _=_;congr 1;simp [UInt8.lt_iff_toNat_lt]⟩
 ·exact⟨_,rfl,by show _=_;congr 1;simp [UInt8.le_iff_toNat_le]⟩
 ·exact⟨_,rfl,by show _=_;congr 1;simp [UInt8.lt_iff_toNat_lt]⟩
 ·exact⟨_,rfl,by show _=_;congr 1;simp [UInt8.le_iff_toNat_le]⟩
 ·exact⟨_,rfl,by show _=_;congr 1;exact u8c a b⟩
 ·exact⟨_,rfl,by show _=_;congr 1;rw[bne,bne,u8c]⟩
theorem zrh{b:UInt8}(h:(b != 0)=true):¬ (b.toNat:Int)=0:=fun e=>by
 have:b=0:=UInt8.toNat_inj.1 (by show b.toNat=0;omega)
 subst this
 cases h
theorem zq5{a b:UInt8}(h:(b != 0)=true):zlD .quo .u8 (a.toNat:Int) (b.toNat:Int)=some (.int .u8 ((a/b).toNat:Int)):=by
 simp only[zlD]
 rw[if_neg (zrh h)]
 congr 2
 have h1:=a.toNat_lt
 have h2:a.toNat/b.toNat<=a.toNat:=Nat.div_le_self _ _
 have e:(a.toNat:Int).tdiv (b.toNat:Int)=((a.toNat/b.toNat:Nat):Int):=rfl
 rw[e,IntKind.wrap_u8,UInt8.toNat_div]
 clear e
 generalize a.toNat/b.toNat=q at h2 |-
 omega
theorem zq6{a b:UInt8}(h:(b != 0)=true):zlD .rem .u8 (a.toNat:Int) (b.toNat:Int)=some (.int .u8 ((a % b).toNat:Int)):=by
 simp only[zlD]
 rw[if_neg (zrh h),UInt8.toNat_mod]
 rfl
theorem zqi{a:UInt8}{n:Int}(hn:0<=n):xV .shl .u8 (a.toNat:Int) n=some (.int .u8 ((zq4 a n).toNat:Int)):=by
 unfold xV
 rw[if_neg (by omega)]
 show some (AV.int .u8 (IntKind.u8.wrap _))=_
 rw[zdi];rfl
theorem zqj{a:UInt8}{n:Int}(hn:0<=n):xV .shr .u8 (a.toNat:Int) n=some (.int .u8 ((zkY a n).toNat:Int)):=by
 unfold xV
 rw[if_neg (by omega)]
 have h1:Int.fdiv ((a.toNat:Nat):Int) (2 ^ min n.toNat (IntKind.bits .u8))=((a.toNat/2 ^ (min n.toNat 8):Nat):Int):=by
  rw[show IntKind.bits .u8=8 from rfl,Int.fdiv_eq_ediv_of_nonneg _ (Int.pow_nonneg (by decide))]
  push_cast
  rfl
 have h2:((zkY a n).toNat:Int)=((a.toNat/2 ^ (min n.toNat 8):Nat):Int):=by
  have h3:a.toNat/2 ^ (min n.toNat 8)<256:=Nat.lt_of_le_of_lt (Nat.div_le_self _ _) a.toNat_lt
  unfold zkY
  generalize a.toNat/2 ^ (min n.toNat 8)=z at *
  rw[<- zdi,IntKind.wrap_u8];omega
 show some (AV.int .u8 (Int.fdiv _ _))=_
 rw[h1,h2]
def zpT(f:Field->Option Bool):List Field->Option Bool
 | []=>some true
 |fd::l=>if fd.name ≠ "_" then match f fd,zpT f l with
   |some a,some b=>some (a&&b)
   |_,_=>none
  else zpT f l
theorem ziS{f g:Field->Option Bool}(hf:∀ x r,f x=some r->g x=some r){l:List Field}{r:Bool}(h:zpT f l=some r):zoX g l=some r:=by
 induction l generalizing r with
 |nil=>exact h
 |cons fd l ih=>
  unfold zpT at h
  unfold zoX
  split
  ·rename_i hn
   rw[if_pos hn] at h
   split at h
   ·rename_i a b h1 h2
    cases h
    rw[hf _ _ h1,ih h2]
    cases a<;>rfl
   ·cases h
  ·rename_i hn
   rw[if_neg hn] at h
   exact ih h
def zpV(P:Program):Nat->TypeId->AV->AV->Option Bool
 |0,_,_,_=>none
 |d+1,t,x,y=>match P.underlying t,x,y with
  |some (.struct fs),.agg xs,.agg ys=>if P.stoodInHeld t then none else zpT (fun f=>match zaW P f.type xs f.offset,zaW P f.type ys f.offset with|some a,some b=>zpV P d f.type a b|_,_=>none) fs.toList
  |_,_,_=>meq P (d+1) t x y
theorem zdS{d:Nat}:∀ {t:TypeId} {x y:AV} {r:Bool},zpV P d t x y=some r->meq P d t x y=some r:=by
 induction d with
 |zero=>intro t x y r h;cases h
 |succ d ih=>
  intro t x y r h
  unfold zpV at h
  split at h
  ·rename_i fs xs ys hu
   unfold meq
   rw[hu]
   simp only
   split at h
   ·cases h
   ·rename_i hs
    rw[if_neg hs]
    refine ziS (fun f r hf=>?_) h
    split at hf
    ·rename_i h1 h2;rw[h1,h2];exact ih hf
    ·cases hf
  ·exact h
def zoG(P:Program)(op:BinOp)(t:TypeId)(a b:AV):Option (Bool×AV):=
 match op,a,b with
 |.quo,.int k x,.int k' y=>if k=k' then some (y != 0,.int k (k.wrap (x.tdiv y))) else none
 |.rem,.int k x,.int k' y=>if k=k' then some (y != 0,.int k (x.tmod y)) else none
 |.shl,.int k x,.int _ y=>some (decide (0<=y),.int k (k.wrap (x*2 ^ (min y.toNat k.bits))))
 |.shr,.int k x,.int _ y=>some (decide (0<=y),.int k (x.fdiv (2 ^ (min y.toNat k.bits))))
 |.add,.str x,.str y=>some (decide (x.length+y.length<4611686018427387904),.str (x++y))
 |.eql,.agg xs,.agg ys=>match zpV P 8 t (.agg xs) (.agg ys) with
  |some r=>some (true,.bool r)
  |none=>none
 |.neq,.agg xs,.agg ys=>match zpV P 8 t (.agg xs) (.agg ys) with
  |some r=>some (true,.bool !r)
  |none=>none
 |op,a,b=>match zer P op t a b with
  |some v=>some (true,v)
  |none=>none
theorem zg9{op:BinOp}{t:TypeId}{a b v:AV}(h:zoG P op t a b=some (true,v)):zer P op t a b=some v:=by
 unfold zoG at h
 split at h
 ·split at h
  ·rename_i k x k' y hk
   simp only[Option.some.injEq,Prod.mk.injEq,bne_iff_ne] at h
   obtain⟨h1,rfl⟩:=h
   simp only[zer,if_pos hk,zlD,if_neg h1]
  ·cases h
 ·split at h
  ·rename_i k x k' y hk
   simp only[Option.some.injEq,Prod.mk.injEq,bne_iff_ne] at h
   obtain⟨h1,rfl⟩:=h
   simp only[zer,if_pos hk,zlD,if_neg h1]
  ·cases h
 ·simp only[Option.some.injEq,Prod.mk.injEq,decide_eq_true_eq] at h
  obtain⟨h1,rfl⟩:=h
  simp only[zer,xV]
  rw[if_neg (by omega)]
 ·simp only[Option.some.injEq,Prod.mk.injEq,decide_eq_true_eq] at h
  obtain⟨h1,rfl⟩:=h
  simp only[zer,xV]
  rw[if_neg (by omega)]
 ·simp only[Option.some.injEq,Prod.mk.injEq,decide_eq_true_eq] at h
  obtain⟨h1,rfl⟩:=h
  simp only[zer,zqv]
  rw[if_pos h1]
 ·split at h
  ·rename_i r hr
   cases h
   simp only[zer,zdS hr]
  ·cases h
 ·split at h
  ·rename_i r hr
   cases h
   simp only[zer,zdS hr]
  ·cases h
 ·split at h
  ·cases h;assumption
  ·cases h
def zhT(P:Program)(t:TypeId)(a b:SV):Bool:=match P.underlying t,a,b with
 |some (.pointer _),.ptr ..,.a .zbf=>true
 |some (.pointer _),.zcP ..,.a .zbf=>true
 |some (.pointer _),.zdD ..,.a .zbf=>true
 |some (.map _ _),.map ..,.a .zcd=>true
 |some (.map _ _),.zoW ..,.a .zcd=>true
 |some (.func _ _ _),.fn ..,.a .zeX=>true
 |some (.interface _),.ifc ..,.a .xQ=>true
 |some (.slice _),.nsl ..,.a .qj=>true
 |_,_,_=>false
theorem wN{t:TypeId}{a b:SV}{x y:AV}(h:zhT P t a b=true)(ha:RV X a x)(hb:RV X b y):meq P 8 t x y=some false/\meq P 8 t y x=some false/\(∀ op,zer P op t x y=match op with|.eql=>(match meq P 8 t x y with|some r=>some (.bool r)|none=>none)|.neq=>(match meq P 8 t x y with|some r=>some (.bool !r)|none=>none)|_=>none) /\
  (∀ op,zer P op t y x=match op with|.eql=>(match meq P 8 t y x with|some r=>some (.bool r)|none=>none)|.neq=>(match meq P 8 t y x with|some r=>some (.bool !r)|none=>none)|_=>none)/\∀ p q op,zak P op t p q x y=true/\zak P op t p q y x=true:=by
 unfold zhT at h
 split at h
 ·rename_i hu;obtain⟨m,_,rfl⟩:=ha;cases(show y=_ from hb)
  refine⟨by unfold meq;rw[hu],by unfold meq;rw[hu],fun op=>by cases op<;>rfl,fun op=>by cases op<;>rfl,fun p q op=>by cases op<;>exact⟨rfl,rfl⟩⟩
 ·rename_i hu;obtain⟨m,off,ver,lim,cs,rfl,_⟩:=ha;cases(show y=_ from hb)
  refine⟨by unfold meq;rw[hu],by unfold meq;rw[hu],fun op=>by cases op<;>rfl,fun op=>by cases op<;>rfl,fun p q op=>by cases op<;>exact⟨rfl,rfl⟩⟩
 ·rename_i hu;cases(show x=_ from ha);cases(show y=_ from hb)
  refine⟨by unfold meq;rw[hu],by unfold meq;rw[hu],fun op=>by cases op<;>rfl,fun op=>by cases op<;>rfl,fun p q op=>by cases op<;>exact⟨rfl,rfl⟩⟩
 ·rename_i hu;obtain⟨m,_,rfl⟩:=ha;cases(show y=_ from hb)
  refine⟨by unfold meq;rw[hu],by unfold meq;rw[hu],fun op=>by cases op<;>rfl,fun op=>by cases op<;>rfl,fun p q op=>by cases op<;>exact⟨rfl,rfl⟩⟩
 ·rename_i hu;obtain⟨m,es,rfl,_⟩:=ha;cases(show y=_ from hb)
  refine⟨by unfold meq;rw[hu],by unfold meq;rw[hu],fun op=>by cases op<;>rfl,fun op=>by cases op<;>rfl,fun p q op=>by cases op<;>exact⟨rfl,rfl⟩⟩
 ·rename_i hu;obtain⟨m,es,rfl,_⟩:=ha;cases(show y=_ from hb)
  refine⟨by unfold meq;rw[hu],by unfold meq;rw[hu],fun op=>by cases op<;>rfl,fun op=>by cases op<;>rfl,fun p q op=>by cases op<;>exact⟨rfl,rfl⟩⟩
 ·rename_i hu;obtain⟨m,rfl,_⟩:=ha;cases(show y=_ from hb)
  refine⟨by unfold meq;rw[hu],by unfold meq;rw[hu],fun op=>by cases op<;>rfl,fun op=>by cases op<;>rfl,fun p q op=>by cases op<;>exact⟨rfl,rfl⟩⟩
 ·rename_i hu;obtain⟨m,off,ver,c',cs,rfl,_⟩:=ha;cases(show y=_ from hb)
  refine⟨by unfold meq;rw[hu],by unfold meq;rw[hu],fun op=>by cases op<;>rfl,fun op=>by cases op<;>rfl,fun p q op=>by cases op<;>exact⟨rfl,rfl⟩⟩
 ·cases h
def ptrEq(P:Program)(t:TypeId)(a b:SV):Option Bool:=match P.underlying t,a,b with
 |some (.pointer e),.ptr l o _,.ptr l' o' _=>match Nat.beq l l'&&wide P e with
  |true=>some (o==o')
  |false=>none
 |_,_,_=>none
theorem zc1{t:TypeId}{a b:SV}{x y:AV}{r:Bool}(h:ptrEq P t a b=some r)(ha:RV X a x)(hb:RV X b y):zer P .eql t x y=some (.bool r)/\zer P .neq t x y=some (.bool !r)/\∀ p q op,zak P op t p q x y=true:=by
 unfold ptrEq at h
 split at h
 ·rename_i e l o _ l' o' _ hu
  split at h
  ·rename_i hc
   cases h
   simp only[Bool.and_eq_true] at hc
   obtain⟨h1,h2⟩:=hc
   cases Nat.eq_of_beq_eq_true h1
   obtain⟨m,⟨v,q1⟩,rfl⟩:=ha
   obtain⟨m',⟨v',q2⟩,rfl⟩:=hb
   rw[q1] at q2;cases q2
   have hm:∀ a b,meq P 8 t (.ptr m o 0 a) (.ptr m o' 0 b)=some (o==o'):=fun a b=>by unfold meq;rw[hu];simp only;rw[if_pos ⟨trivial,trivial,h2⟩]
   exact⟨by simp only[zer,hm],by simp only[zer,hm],fun p q op=>by cases op<;>rfl⟩
  ·cases h
 ·cases h
def zqy(P:Program)(op:BinOp)(t:TypeId)(x y:Operand)(a b:SV):Option (Bool×SV):=match a,b with
 |.u8 a,.u8 b=>match op with
  |.shl=>some (true,.u8 (zq4 a (b.toNat:Int)))
  |.shr=>some (true,.u8 (zkY a (b.toNat:Int)))
  |.quo=>some (b != 0,.u8 (a/b))
  |.rem=>some (b != 0,.u8 (a % b))
  |op=>(sb8 op a b).map (true,·)
 |.u8 a,.a (.int _ n)=>match op with
  |.shl=>some (decide (0<=n),.u8 (zq4 a n))
  |.shr=>some (decide (0<=n),.u8 (zkY a n))
  |_=>none
 |a,b=>match zqC a,zqC b with
  |some p,some q=>match zak P op t x y p q,zoG P op t p q with
   |true,some (g,v)=>(ofA v).map (g,·)
   |_,_=>none
  |_,_=>match op,zhT P t a b||zhT P t b a with
   |.eql,true=>some (true,.a (.bool false))
   |.neq,true=>some (true,.a (.bool true))
   |_,true=>none
   |op,false=>match op,ptrEq P t a b with
    |.eql,some r=>some (true,.a (.bool r))
    |.neq,some r=>some (true,.a (.bool !r))
    |_,_=>none
theorem ziU{op:BinOp}{t:TypeId}{x y:Operand}{a b v:SV}{p q:AV}(h:zqy P op t x y a b=some (true,v))(ha:RV X a p)(hb:RV X b q):zak P op t x y p q=true/\∃ w,zer P op t p q=some w/\RV X v w:=by
 unfold zqy at h
 split at h
 ·cases(show p=_ from ha);cases(show q=_ from hb)
  refine⟨by cases op<;>rfl,?_⟩
  split at h
  ·cases h;exact⟨_,zqi (by omega),rfl⟩
  ·cases h;exact⟨_,zqj (by omega),rfl⟩
  ·rename_i a b
   simp only[Option.some.injEq,Prod.mk.injEq] at h
   obtain⟨h1,rfl⟩:=h
   exact⟨_,zq5 h1,rfl⟩
  ·rename_i a b
   simp only[Option.some.injEq,Prod.mk.injEq] at h
   obtain⟨h1,rfl⟩:=h
   exact⟨_,zq6 h1,rfl⟩
  ·rename_i a b op' h1 h2 h3 h4
   cases q:sb8 op a b with
   |none=>rw[q] at h;cases h
   |some v'=>
    rw[q] at h;cases h
    obtain⟨w,h3,h4⟩:=zkN (X:=X) q
    refine⟨w,?_,h4⟩
    cases op<;>first|exact h3|contradiction|cases h3
 ·cases(show p=_ from ha);cases(show q=_ from hb)
  split at h
  ·simp only[Option.some.injEq,Prod.mk.injEq,decide_eq_true_eq] at h
   obtain⟨h1,rfl⟩:=h
   exact⟨rfl,_,zqi h1,rfl⟩
  ·simp only[Option.some.injEq,Prod.mk.injEq,decide_eq_true_eq] at h
   obtain⟨h1,rfl⟩:=h
   exact⟨rfl,_,zqj h1,rfl⟩
  ·cases h
 ·split at h
  ·rename_i p' q' h1 h2
   cases zdZ h1 ha
   cases zdZ h2 hb
   split at h
   ·rename_i g v' h3 h4
    cases h5:ofA v' with
    |none=>rw[h5] at h;cases h
    |some v2=>rw[h5] at h;cases h;exact⟨h3,v',zg9 h4,zaY h5⟩
   ·cases h
  ·split at h
   ·rename_i hn
    cases h
    rcases Bool.or_eq_true _ _ ▸ hn with hn|hn
    ·obtain⟨h1,h2,h3,h4,h5⟩:=wN hn ha hb
     exact⟨(h5 _ _ _).1,.bool false,(h3 _).trans (by simp only[h1]),rfl⟩
    ·obtain⟨h1,h2,h3,h4,h5⟩:=wN hn hb ha
     exact⟨(h5 _ _ _).2,.bool false,(h4 _).trans (by simp only[h2]),rfl⟩
   ·rename_i hn
    cases h
    rcases Bool.or_eq_true _ _ ▸ hn with hn|hn
    ·obtain⟨h1,h2,h3,h4,h5⟩:=wN hn ha hb
     exact⟨(h5 _ _ _).1,.bool true,(h3 _).trans (by simp only[h1];rfl),rfl⟩
    ·obtain⟨h1,h2,h3,h4,h5⟩:=wN hn hb ha
     exact⟨(h5 _ _ _).2,.bool true,(h4 _).trans (by simp only[h2];rfl),rfl⟩
   ·cases h
   ·split at h
    ·rename_i r hp
     cases h
     obtain⟨h1,h2,h3⟩:=zc1 hp ha hb
     exact⟨h3 _ _ _,_,h1,rfl⟩
    ·rename_i r hp
     cases h
     obtain⟨h1,h2,h3⟩:=zc1 hp ha hb
     exact⟨h3 _ _ _,_,h2,rfl⟩
    ·cases h
theorem zjq(hr:RH X)(he:EvR X e m){op:BinOp}{t t':TypeId}{x y:Operand}{a b v:SV}(ha:e x=some a)(hb:e y=some b)(h:zqy P op t x y a b=some (true,v)):∃ rs,mop P m X.h (.binOp op t x y t')=some rs/\SRR X (.val v X.sh) rs:=by
 obtain⟨p,h1,h2⟩:=he _ _ ha
 obtain⟨q,h3,h4⟩:=he _ _ hb
 obtain⟨hg,w,h5,h6⟩:=ziU h h2 h4
 exact⟨_,by simp only[mop,h1,h3,if_pos hg,h5,rv],.same hr h6⟩
def sun(u:UnOp):SV->Option SV
 |.a (.int k x)=>match u with
  |.neg=>some (.a (.int k (k.wrap (0-x))))
  |.xor=>some (.a (.int k (zb8 .xor k (if k.signed then -1 else k.max) x)))
  |_=>none
 |.u8 b=>match u with
  |.neg=>some (.u8 (0-b))
  |_=>none
 |.a (.bool b)=>match u with
  |.not=>some (.a (.bool !b))
  |_=>none
 |_=>none
theorem zmR(hr:RH X)(he:EvR X e m){u:UnOp}{t:TypeId}{x:Operand}{a v:SV}(ha:e x=some a)(h:sun u a=some v):∃ rs,mop P m X.h (.unOp u t x)=some rs/\SRR X (.val v X.sh) rs:=by
 obtain⟨p,h1,h2⟩:=he _ _ ha
 unfold sun at h
 split at h
 ·cases(show p=_ from h2)
  split at h<;>cases h
  ·exact⟨_,by simp only[mop,h1],.same hr rfl⟩
  ·exact⟨_,by simp only[mop,h1],.same hr rfl⟩
 ·cases(show p=_ from h2)
  split at h<;>cases h
  rename_i b _
  refine⟨.val (.int .u8 (IntKind.u8.wrap (0-(b.toNat:Int)))) X.h,by simp only[mop,h1],.same hr ?_⟩
  show _=_
  refine congrArg (AV.int .u8) ?_
  have:=b.toNat_lt
  rw[IntKind.wrap_u8,UInt8.toNat_sub]
  have:(0:UInt8).toNat=0:=rfl
  omega
 ·cases(show p=_ from h2)
  split at h<;>cases h
  exact⟨_,by simp only[mop,h1],.same hr rfl⟩
 ·cases h
end
end Go.Sx
