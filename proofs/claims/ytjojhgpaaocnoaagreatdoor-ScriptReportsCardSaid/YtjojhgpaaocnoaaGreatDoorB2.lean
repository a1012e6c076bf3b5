/- Machines and laws 2. -/
import Derived.Test.YtjojhgpaaocnoaaGreatDoorB1
import Derived.RangeFuncLeaves
import Derived.RangeFuncRecord
import Derived.RangeFuncCalls
import Derived.RangeFuncNested
import Derived.OrdersIn
import Derived.LoopNIn
import Derived.TacticsIn
import Derived.Laws.MakeOwn
import Derived.Lib.UnsafeStr
set_option linter.unusedVariables false
set_option linter.unusedSimpArgs false
namespace Go.Mx
inductive Tr(α:Type) where
 |leaf
 |node (v:α) (l r:Tr α)
def evn(k:Nat):Bool:=Nat.beq (k % 2) 0
section
variable {α:Type} [Inhabited α]
def Tr.get:Tr α->Nat->α
 |.leaf,_=>default
 |.node v _ _,0=>v
 |.node _ l r,k+1=>match evn k with
  |true=>l.get (k/2)
  |false=>r.get (k/2)
def Tr.set:Nat->Tr α->Nat->α->Tr α
 |0,t,_,_=>t
 |_+1,.leaf,0,x=>.node x .leaf .leaf
 |f+1,.leaf,k+1,x=>match evn k with
  |true=>.node default (Tr.set f .leaf (k/2) x) .leaf
  |false=>.node default .leaf (Tr.set f .leaf (k/2) x)
 |_+1,.node _ l r,0,x=>.node x l r
 |f+1,.node v l r,k+1,x=>match evn k with
  |true=>.node v (Tr.set f l (k/2) x) r
  |false=>.node v l (Tr.set f r (k/2) x)
theorem zeh{k j:Nat}(h:evn k=evn j)(h2:k/2=j/2):k=j:=by
 have h3:(k % 2=0)↔(j % 2=0):=by
  have e:∀ n,evn n=true↔n % 2=0:=fun n=>by unfold evn;exact iff_of_eq Nat.beq_eq
  rw[<- e,<- e,h]
 omega
theorem Tr.zw:∀ (f:Nat) (t:Tr α) (i:Nat) (x:α) (j:Nat),i<f->(Tr.set f t i x).get j=if i=j then x else t.get j
 |0,_,_,_,_,h=>by omega
 |f+1,.leaf,0,x,0,h=>rfl
 |f+1,.leaf,0,x,j+1,h=>by
  rw[if_neg (by omega)]
  simp only[Tr.set,Tr.get]
  split<;>rfl
 |f+1,.node v l r,0,x,0,h=>rfl
 |f+1,.node v l r,0,x,j+1,h=>by rw[if_neg (by omega)];rfl
 |f+1,.leaf,k+1,x,0,h=>by
  rw[if_neg (by omega)]
  simp only[Tr.set]
  split<;>rfl
 |f+1,.leaf,k+1,x,j+1,h=>by
  simp only[Tr.set]
  have ih:=Tr.zw f (.leaf:Tr α) (k/2) x (j/2) (by omega)
  cases hk:evn k<;>cases hj:evn j<;>simp only[Tr.get,hj]
  ·rw[ih]
   by_cases e:k=j
   ·subst e;simp
   ·rw[if_neg (fun q=>e (zeh (hk.trans hj.symm) q)),if_neg (by omega)];rfl
  ·rw[if_neg (fun q=>by rw[Nat.succ.inj q,hj] at hk;cases hk)]
  ·rw[if_neg (fun q=>by rw[Nat.succ.inj q,hj] at hk;cases hk)]
  ·rw[ih]
   by_cases e:k=j
   ·subst e;simp
   ·rw[if_neg (fun q=>e (zeh (hk.trans hj.symm) q)),if_neg (by omega)];rfl
 |f+1,.node v l r,k+1,x,0,h=>by
  rw[if_neg (by omega)]
  simp only[Tr.set]
  split<;>rfl
 |f+1,.node v l r,k+1,x,j+1,h=>by
  simp only[Tr.set]
  cases hk:evn k<;>cases hj:evn j<;>simp only[Tr.get,hj]
  ·rw[Tr.zw f r (k/2) x (j/2) (by omega)]
   by_cases e:k=j
   ·subst e;simp
   ·rw[if_neg (fun q=>e (zeh (hk.trans hj.symm) q)),if_neg (by omega)]
  ·rw[if_neg (fun q=>by rw[Nat.succ.inj q,hj] at hk;cases hk)]
  ·rw[if_neg (fun q=>by rw[Nat.succ.inj q,hj] at hk;cases hk)]
  ·rw[Tr.zw f l (k/2) x (j/2) (by omega)]
   by_cases e:k=j
   ·subst e;simp
   ·rw[if_neg (fun q=>e (zeh (hk.trans hj.symm) q)),if_neg (by omega)]
end
structure Arr(α:Type) where
 t:Tr α
 length:Nat
section
variable {α:Type} [Inhabited α]
def Arr.get?(a:Arr α)(i:Nat):Option α:=match Nat.blt i a.length with
 |true=>some (a.t.get i)
 |false=>none
def Arr.set(a:Arr α)(i:Nat)(x:α):Arr α:=match Nat.blt i a.length with
 |true=>⟨Tr.set (i+1) a.t i x,a.length⟩
 |false=>a
def Arr.push(a:Arr α)(x:α):Arr α:=⟨Tr.set (a.length+1) a.t a.length x,a.length+1⟩
def Arr.app(a:Arr α):List α->Arr α
 | []=>a
 |x::l=>(a.push x).app l
def Arr.nil:Arr α:=⟨.leaf,0⟩
def Arr.of(l:List α):Arr α:=Arr.nil.app l
instance:HAppend (Arr α) (List α) (Arr α):=⟨Arr.app⟩
instance:GetElem? (Arr α) Nat α (fun a i=>i<a.length) where
 getElem a i _:=a.t.get i
 getElem? a i:=a.get? i
variable {a:Arr α} {i j:Nat} {x y:α} {l:List α}
theorem Arr.get?_eq:a[i]?=if i<a.length then some (a.t.get i) else none:=by
 show a.get? i=_
 unfold Arr.get?
 cases h:Nat.blt i a.length with
 |true=>rw[if_pos (by simpa [Nat.blt_eq] using h)]
 |false=>rw[if_neg (fun q=>by rw[<- Nat.blt_eq,h] at q;cases q)]
theorem Arr.lt(h:a[i]?=some x):i<a.length:=by
 rw[Arr.get?_eq] at h
 split at h
 ·assumption
 ·cases h
theorem Arr.zk2(h:i<a.length):∃ x,a[i]?=some x:=⟨_,by rw[Arr.get?_eq,if_pos h]⟩
theorem Arr.length_set:(a.set i x).length=a.length:=by unfold Arr.set;split<;>rfl
theorem Arr.zw:(a.set i x)[j]?=if i=j then(if i<a.length then some x else none) else a[j]?:=by
 rw[Arr.get?_eq,Arr.get?_eq,Arr.length_set]
 unfold Arr.set
 cases h:Nat.blt i a.length with
 |true=>
  have h':i<a.length:=by simpa [Nat.blt_eq] using h
  simp only
  rw[Tr.zw _ _ _ _ _ (by omega)]
  by_cases e:i=j
  ·subst e;simp [h']
  ·simp [e]
 |false=>
  have h':¬ i<a.length:=fun q=>by rw[<- Nat.blt_eq,h] at q;cases q
  by_cases e:i=j
  ·subst e;simp [h']
  ·simp [e]
theorem Arr.zj(h:i<a.length):(a.set i x)[i]?=some x:=by rw[Arr.zw,if_pos rfl,if_pos h]
theorem Arr.zk(h:i≠j):(a.set i x)[j]?=a[j]?:=by rw[Arr.zw,if_neg h]
theorem Arr.jE:a++([]:List α)=a:=rfl
theorem Arr.zhz:a++(x::l)=a.push x++l:=rfl
theorem Arr.zv:(a++l).length=a.length+l.length:=by
 induction l generalizing a with
 |nil=>rfl
 |cons x l ih=>rw[Arr.zhz,ih];simp only[Arr.push,List.length_cons];omega
theorem Arr.zC:(a.push x)[j]?=if j<a.length then a[j]? else if j=a.length then some x else none:=by
 have hp:(a.push x).length=a.length+1:=rfl
 have hg:(a.push x).t.get j=if a.length=j then x else a.t.get j:=Tr.zw _ _ _ _ _ (by omega)
 rw[Arr.get?_eq,Arr.get?_eq,hg]
 by_cases h:j<a.length
 ·rw[if_pos (show j<(a.push x).length by omega),if_pos h,if_pos h,if_neg (by omega)]
 ·rw[if_neg h]
  by_cases e:j=a.length
  ·subst e;rw[if_pos (show a.length<(a.push x).length by omega),if_pos rfl,if_pos rfl]
  ·rw[if_neg (show ¬ j<(a.push x).length by omega),if_neg e]
theorem Arr.zgu:(a++l)[j]?=if j<a.length then a[j]? else l[j-a.length]?:=by
 induction l generalizing a with
 |nil=>
  rw[Arr.jE]
  split
  ·rfl
  ·rw[Arr.get?_eq,if_neg (by assumption)];simp
 |cons x l ih=>
  rw[Arr.zhz,ih,Arr.zC]
  have hp:(a.push x).length=a.length+1:=rfl
  by_cases h:j<a.length
  ·rw[if_pos (show j<(a.push x).length by omega),if_pos h,if_pos h]
  ·rw[if_neg h,if_neg h]
   by_cases e:j=a.length
   ·subst e;rw[if_pos (show a.length<(a.push x).length by omega),if_pos rfl];simp
   ·rw[if_neg (show ¬ j<(a.push x).length by omega),hp]
    obtain⟨k,hk⟩:∃ k,j-a.length=k+1:=⟨j-a.length-1,by omega⟩
    rw[hk,List.getElem?_cons_succ];congr 1;omega
theorem Arr.zO(h:j<a.length):(a++l)[j]?=a[j]?:=by rw[Arr.zgu,if_pos h]
theorem Arr.zt(h:a.length<=j):(a++l)[j]?=l[j-a.length]?:=by rw[Arr.zgu,if_neg (by omega)]
theorem Arr.zjX:(Arr.of l).length=l.length:=by
 have:(Arr.of l).length=(Arr.nil:Arr α).length+l.length:=Arr.zv
 rw[this];show 0+_=_;omega
theorem Arr.zjH:(Arr.of l)[j]?=l[j]?:=by
 have:(Arr.of l)[j]?=_:=Arr.zgu (a:=Arr.nil)
 rw[this,if_neg (by show ¬ j<0;omega)]
 congr 1
def Arr.toL(a:Arr α):List α:=(List.range a.length).map fun i=>a.t.get i
theorem Arr.zS:a.toL[i]?=a[i]?:=by
 rw[Arr.get?_eq]
 unfold Arr.toL
 split
 ·rename_i h;simp [h]
 ·rename_i h;simp [h]
theorem Arr.qz:a.toL.length=a.length:=by simp [Arr.toL]
theorem Arr.zlp:(Arr.of l).toL=l:=List.ext_getElem? fun i=>by rw[Arr.zS,Arr.zjH]
theorem Arr.get_none(h:a[i]?=none):a.length<=i:=by
 rcases Nat.lt_or_ge i a.length with hl|hl
 ·obtain⟨x,hx⟩:=Arr.zk2 hl
  rw[hx] at h;cases h
 ·exact hl
end
end Go.Mx
namespace Go.Mx
open Go Go.Gx
inductive AV where
 |bool (b:Bool)|int (k:IntKind) (n:Int)|str (l:List UInt8)
 |zbf|ptr (loc off ver lim:Nat)
 |qj|sl (loc off len sz ver:Nat) (clip:Bool)
 |zcd|map (loc:Nat)
 |zeX|fn (f:FuncId) (first cap:List AV)
 |xQ|ifc (t:TypeId) (v:AV)|opq
 |agg (l:List AV)|tup (l:List AV)
 |any|iv (lo hi:Int)|yld (loc:Nat)|vs (l:List AV) (sz:Nat)
 deriving Inhabited
structure Ver where
 b:Nat
 lo:Nat
 top:Nat
 size:Nat
 sh:Nat
abbrev Gh:=List (List Ver)
def Gh.at(G:Gh)(loc v:Nat):Option Ver:=(G[loc]?).bind fun vs=>vs[v]?
def Gh.le(G G':Gh):Prop:=∀ loc v r,G.at loc v=some r->G'.at loc v=some r
theorem Gh.le_refl(G:Gh):G.le G:=fun _ _ _ h=>h
theorem Gh.le_trans{a b c:Gh}(h:a.le b)(k:b.le c):a.le c:=fun _ _ _ q=>k _ _ _ (h _ _ _ q)
mutual
inductive V(G:Gh):AV->Value->Prop
 |bool (b:Bool):V G (.bool b) (.bool b)
 |int (k:IntKind) (n:Int):V G (.int k n) (.int k n)
 |str (l:List UInt8):V G (.str l) (zbd l)
 |zbf:V G .zbf (.pointer none)
 |ptr {loc off ver lim:Nat} {r:Ver} (h:G.at loc ver=some r) (h1:r.lo<=off) (h2:lim<=r.top):V G (.ptr loc off ver lim) (.pointer (some ⟨r.b,off+r.sh-r.lo,none⟩))
 |qj:V G .qj (.slice none 0 0)
 |sl {loc off len sz ver cap:Nat} {clip:Bool} {r:Ver} (h:G.at loc ver=some r) (h1:r.lo<=off) (h2:off+len*sz<=r.top) (h3:len<=cap) (h4:off+r.sh-r.lo+cap*sz<=r.size)
   (h5:clip=true->cap=len) (h6:clip=false->r.top<=off+cap*sz) (h7:cap<=maxLen) (hz:0<sz):V G (.sl loc off len sz ver clip) (.slice (some ⟨r.b,off+r.sh-r.lo,none⟩) len cap)
 |sl0 {loc off sz ver:Nat} {a:Addr} {clip:Bool} {r:Ver} (h:G.at loc ver=some r) (h1:r.lo<=off) (h2:off<=r.top) (h6:clip=false->r.top<=off) (hz:0<sz):V G (.sl loc off 0 sz ver clip) (.slice (some a) 0 0)
 |zcd:V G .zcd (.map none)
 |map {loc:Nat} {r:Ver} (h:G.at loc 0=some r):V G (.map loc) (.map (some r.b))
 |zeX:V G .zeX .nilFunc
 |fn (f:FuncId) {first cap:List AV} {vf vc:List Value} (hf:VL G first vf) (hc:VL G cap vc):V G (.fn f first cap) (.func (.func f) vf.toArray vc.toArray)
 |xQ:V G .xQ .nilIface
 |ifc (t:TypeId) {v:AV} {u:Value} (h:V G v u):V G (.ifc t v) (.iface t u)
 |opq (t:TypeId) (v:Value):V G .opq (.iface t v)
 |agg {l:List AV} {us:List Value} (h:VL G l us):V G (.agg l) (.agg us.toArray)
 |tup {l:List AV} {us:List Value} (h:VL G l us):V G (.tup l) (.tuple us.toArray)
 |any (n:Int):V G .any (.int .u8 n)
 |yld {loc:Nat} {r:Ver} (h:G.at loc 0=some r):V G (.yld loc) (.func (.yield r.b) #[] #[])
 |iv {lo hi m:Int} (h1:lo<=m) (h2:m<=hi):V G (.iv lo hi) (.int .i64 m)
 |vs {l:List AV} {sz n c:Nat} {a:Addr}:V G (.vs l sz) (.slice (some a) n c)
inductive VL(G:Gh):List AV->List Value->Prop
 |nil:VL G [] []
 |cons {x:AV} {u:Value} {l:List AV} {us:List Value} (h:V G x u) (t:VL G l us):VL G (x::l) (u::us)
end
mutual
theorem V.le{G G':Gh}(hG:G.le G'):∀ {x:AV} {u:Value},V G x u->V G' x u
 |_,_,.bool b=>.bool b
 |_,_,.int k n=>.int k n
 |_,_,.str l=>.str l
 |_,_,.zbf=>.zbf
 |_,_,.ptr h h1 h2=>.ptr (hG _ _ _ h) h1 h2
 |_,_,.qj=>.qj
 |_,_,.sl h h1 h2 h3 h4 h5 h6 h7 hz=>.sl (hG _ _ _ h) h1 h2 h3 h4 h5 h6 h7 hz
 |_,_,.sl0 h h1 h2 h6 hz=>.sl0 (hG _ _ _ h) h1 h2 h6 hz
 |_,_,.zcd=>.zcd
 |_,_,.map h=>.map (hG _ _ _ h)
 |_,_,.zeX=>.zeX
 |_,_,.fn f hf hc=>.fn f (VL.le hG hf) (VL.le hG hc)
 |_,_,.xQ=>.xQ
 |_,_,.ifc t h=>.ifc t (V.le hG h)
 |_,_,.opq t v=>.opq t v
 |_,_,.agg h=>.agg (VL.le hG h)
 |_,_,.tup h=>.tup (VL.le hG h)
 |_,_,.any n=>.any n
 |_,_,.iv h1 h2=>.iv h1 h2
 |_,_,.yld h=>.yld (hG _ _ _ h)
 |_,_,.vs=>.vs
theorem VL.le{G G':Gh}(hG:G.le G'):∀ {l:List AV} {us:List Value},VL G l us->VL G' l us
 |_,_,.nil=>.nil
 |_,_,.cons h t=>.cons (V.le hG h) (VL.le hG t)
end
section
variable {G G':Gh} {l l':List AV} {us us':List Value}
theorem VL.length(h:VL G l us):us.length=l.length:=by
 induction l generalizing us with
 |nil=>cases h;rfl
 |cons x l ih=>cases h with|cons _ t=>simp [ih t]
theorem VL.get(h:VL G l us){i:Nat}{x:AV}(hx:l[i]?=some x):∃ u,us[i]?=some u/\V G x u:=by
 induction l generalizing us i with
 |nil=>simp at hx
 |cons y l ih=>
  cases h with
  |cons hy t=>
   cases i with
   |zero=>simp at hx;subst hx;exact⟨_,rfl,hy⟩
   |succ i=>simpa using ih t (by simpa using hx)
theorem VL.za2(hl:us.length=l.length)(h:∀ (i:Nat) (x:AV) (u:Value),l[i]?=some x->us[i]?=some u->V G x u):VL G l us:=by
 induction l generalizing us with
 |nil=>simp at hl;subst hl;exact .nil
 |cons x l ih=>
  cases us with
  |nil=>simp at hl
  |cons u us=>exact .cons (h 0 x u rfl rfl) (ih (by simpa using hl) fun i x u hx hu=>h (i+1) x u (by simpa using hx) (by simpa using hu))
theorem VL.append(h:VL G l us)(h':VL G l' us'):VL G (l++l') (us++us'):=by
 induction l generalizing us with
 |nil=>cases h;exact h'
 |cons x l ih=>cases h with|cons hx t=>exact .cons hx (ih t)
theorem VL.take(h:VL G l us)(n:Nat):VL G (l.take n) (us.take n):=by
 induction l generalizing us n with
 |nil=>cases h;simp;exact .nil
 |cons x l ih=>cases h with|cons hx t=>cases n with
  |zero=>simp;exact .nil
  |succ n=>simp;exact .cons hx (ih t n)
theorem VL.drop(h:VL G l us)(n:Nat):VL G (l.drop n) (us.drop n):=by
 induction l generalizing us n with
 |nil=>cases h;simp;exact .nil
 |cons x l ih=>cases h with|cons hx t=>cases n with
  |zero=>simp;exact .cons hx t
  |succ n=>simp;exact ih t n
end
def AV.one:AV->Bool
 |.agg _|.tup _=>false
 |_=>true
def AV.cells:AV->List AV
 |.agg l=>l
 |v=>[v]
theorem V.one{G:Gh}{x:AV}{u:Value}(h:V G x u)(ho:x.one=true):u.oneCell'=true:=by
 cases h<;>first|rfl|cases ho
theorem V.cells{G:Gh}{x:AV}{u:Value}(h:V G x u):VL G x.cells u.cells.toList:=by
 cases h with
 |agg h=>simpa [AV.cells,Value.cells] using h
 |_=>refine .cons ?_ .nil;constructor<;>assumption
inductive Blk where
 |row (cells:List AV) (ver minv frz:Nat) (ro:Bool) (tt:Option TypeId)
 |map (es:List (AV×AV))
 |iter (s:List UInt8) (pos:Nat)
 |lay (cells:List AV)
 |loop (env:Arr AV) (ps:Array Tmp) (asg body:Code) (s:LoopState) (p:Option Code)
 |dfr
 |zaU (m:Option Nat)
 |zbm (k v:AV) (it:Nat)
 |mit (l:Nat) (s:Bool)
 |gone
 |dead
instance:Inhabited Blk:=⟨.dead⟩
def Blk.own:Blk->Bool
 |.row _ _ _ _ ro _=>!ro
 |.dead=>false
 |.lay _=>false
 |_=>true
abbrev za:=Arr Blk
structure zlK(G:Gh)(w:World)(cells:List AV)(ver minv frz:Nat)(tt:Option TypeId)(vs:List Ver):Prop where
 len:vs.length=ver+1
 cell:∀ (v:Nat) (r:Ver),vs[v]?=some r->minv<=v->∃ c T fr,w.heap[r.b]?=some (.cells c T fr)/\(∀ t,tt=some t->T=t)/\c.size=r.size/\r.top<=r.lo+r.size /\
  ∀ p,r.lo<=p->p<r.top->∃ x u,cells[p]?=some x/\c[p-r.lo]?=some u/\V G x u
 tip:∀ (r:Ver),vs[ver]?=some r->r.top=cells.length/\∃ c T fr,w.heap[r.b]?=some (.cells c T fr)/\fr.1<=fr.2/\(∀ j,frz<=j+r.lo->j<c.size->¬ (fr.1<=j/\j<fr.2))/\(tt.isSome=true->fr.1=fr.2\/fr.2+r.lo<=frz)
 zlq:∀ (v:Nat) (r:Ver),vs[v]?=some r->r.lo<=r.top/\r.top<=cells.length
 same:∀ (v1 v2:Nat) (r1 r2:Ver),vs[v1]?=some r1->vs[v2]?=some r2->r1.b=r2.b->r1.lo=r2.lo
 jm:minv<=ver
 sh0:∀ (v:Nat) (r:Ver),vs[v]?=some r->r.sh=0
 zdC:frz<=cells.length
def zje(G:Gh)(w:World):Blk->List Ver->Prop
 |.row cells ver minv frz _ tt,vs=>vs=[]\/zlK G w cells ver minv frz tt vs
 |.map es,vs=>vs=[]\/∃ r,vs=[r]/\∃ es' clock,w.heap[r.b]?=some (.map es' clock)/\VL G (es.map (·.1)) (es'.toList.map (·.key))/\VL G (es.map (·.2)) (es'.toList.map (·.val))/\∀ e ∈ es'.toList,e.born<clock
 |.iter s pos,vs=>vs=[]\/∃ r,vs=[r]/\w.heap[r.b]?=some (.stringIter ⟨s.toArray⟩ pos)
 |.lay cells,vs=>vs=[]\/∃ r,vs=[r]/\r.lo=0/\r.top=cells.length/\∃ c T fr,w.heap[r.b]?=some (.cells c T fr)/\c.size=r.size/\r.top+r.sh<=r.size/\∀ p,p<r.top->∃ x u,cells[p]?=some x/\c[p+r.sh]?=some u/\V G x u
 |.loop env ps asg body s p,vs=>vs=[]\/∃ r,vs=[r]/\∃ L:Loop,w.heap[r.b]?=some (.loop L)/\L.state=s/\L.pending=p/\L.params=ps/\L.assign=asg/\L.body=body/\VL G env.toL L.tmps.toList
 |.dfr,vs=>vs=[]\/∃ r,vs=[r]/\w.heap[r.b]?=some (.deferred (some []))
 |.zaU m,vs=>vs=[]\/∃ r,vs=[r]/\r.sh=0/\∃ a s c b,w.heap[r.b]?=some (.mapIter a s c b)/\match m with|none=>a=none|some l=>∃ rm,G.at l 0=some rm/\a=some rm.b
 |.zbm k v it,vs=>vs=[]\/∃ r,vs=[r]/\∃ e rit,w.heap[r.b]?=some (.map #[e] rit.top)/\V G k e.key/\V G v e.val/\G.at it 0=some rit/\e.born=rit.size/\rit.size<rit.top
 |.mit l s,vs=>vs=[]\/∃ r,vs=[r]/\r.sh=0/\∃ rm,G.at l 0=some rm/\w.heap[r.b]?=some (.mapIter (some rm.b) r.top (if s then #[r.size] else #[]) r.top)
 |.gone,_=>True
 |.dead,_=>True
structure HR(G:Gh)(B:Nat)(h:za)(w:World):Prop where
 len:G.length=h.length
 blk:∀ (loc:Nat) (b:Blk) (vs:List Ver),h[loc]?=some b->G[loc]?=some vs->zje G w b vs
 lt:∀ loc v r,G.at loc v=some r->r.b<w.heap.size
 own:∀ (loc v:Nat) (r:Ver) (b:Blk),G.at loc v=some r->h[loc]?=some b->(b.own=true↔B<=r.b)
 apart:∀ l1 l2 v1 v2 r1 r2,G.at l1 v1=some r1->G.at l2 v2=some r2->B<=r1.b->r1.b=r2.b->l1=l2
 base:B<=w.heap.size
structure Fr(G:Gh)(B:Nat)(w w':World):Prop where
 os:w'.os=w.os
 tape:w'.tape=w.tape
 output:w'.output=w.output
 size:w.heap.size<=w'.heap.size
 low:∀ b,b<w.heap.size->(∀ loc v r,G.at loc v=some r->B<=r.b->r.b≠b)->w'.heap[b]?=w.heap[b]?
theorem Fr.refl(G:Gh)(B:Nat)(w:World):Fr G B w w:=⟨rfl,rfl,rfl,Nat.le_refl _,fun _ _ _=>rfl⟩
def Gh.new(G G':Gh)(n:Nat):Prop:=∀ loc v r',G'.at loc v=some r'->n<=r'.b\/∃ loc' v' r,G.at loc' v'=some r/\r.b=r'.b
theorem Fr.trans{G G':Gh}{B:Nat}{a b c:World}(h:Fr G B a b)(k:Fr G' B b c)(hn:G.new G' a.heap.size):Fr G B a c:=
 ⟨k.os.trans h.os,k.tape.trans h.tape,k.output.trans h.output,Nat.le_trans h.size k.size,fun i hi hx=>
  (k.low i (Nat.lt_of_lt_of_le hi h.size) fun loc v r hr hB e=>by
   rcases hn loc v r hr with h1|⟨loc',v',r',h1,h2⟩
   ·omega
   ·exact hx _ _ _ h1 (h2 ▸ hB) (h2.trans e)).trans (h.low i hi hx)⟩
structure Step(G G':Gh)(B:Nat)(h':za)(w w':World):Prop where
 le:G.le G'
 new:G.new G' w.heap.size
 hr:HR G' B h' w'
 fr:Fr G B w w'
 hole:∀ loc:Nat,G[loc]?=some []->G'[loc]?=some []
theorem Gh.zhS(G:Gh)(n:Nat):G.new G n:=fun loc v r h=>.inr ⟨loc,v,r,h,rfl⟩
theorem Step.refl{G:Gh}{B:Nat}{h:za}{w:World}(hr:HR G B h w):Step G G B h w w:=⟨Gh.le_refl _,Gh.zhS _ _,hr,.refl _ _ _,fun _ h=>h⟩
theorem Step.trans{G G' G'':Gh}{B:Nat}{h' h'':za}{w w' w'':World}(s:Step G G' B h' w w')(t:Step G' G'' B h'' w' w''):Step G G'' B h'' w w'':=
 ⟨Gh.le_trans s.le t.le,fun loc v r hr=>by
  rcases t.new loc v r hr with h1|⟨l',v',r',h1,h2⟩
  ·exact .inl (Nat.le_trans s.fr.size h1)
  ·rw[<- h2];exact s.new l' v' r' h1,t.hr,s.fr.trans t.fr s.new,fun loc h=>t.hole loc (s.hole loc h)⟩
theorem zje.mono{G G':Gh}{w w':World}{b:Blk}{vs:List Ver}(h:zje G w b vs)(hG:G.le G')(hb:∀ (v:Nat) (r:Ver),vs[v]?=some r->w'.heap[r.b]?=w.heap[r.b]?):zje G' w' b vs:=by
 cases b with
 |row cells ver minv frz ro tt=>
  rcases h with h|h
  ·exact .inl h
  ·refine .inr ⟨h.len,fun v r hv hm=>?_,fun r hv=>?_,h.zlq,h.same,h.jm,h.sh0,h.zdC⟩
   ·obtain⟨c,T,fr,h1,ht,h2,h3,h4⟩:=h.cell v r hv hm
    refine⟨c,T,fr,by rw[hb v r hv];exact h1,ht,h2,h3,fun p hp hp'=>?_⟩
    obtain⟨x,u,h5,h6,h7⟩:=h4 p hp hp'
    exact⟨x,u,h5,h6,h7.le hG⟩
   ·obtain⟨h1,c,T,fr,h2,h3⟩:=h.tip r hv
    exact⟨h1,c,T,fr,by rw[hb _ r hv];exact h2,h3⟩
 |map es=>
  rcases h with h|⟨r,rfl,es',clock,h1,h2,h3,h4⟩
  ·exact .inl h
  ·exact .inr ⟨r,rfl,es',clock,by rw[hb 0 r rfl];exact h1,h2.le hG,h3.le hG,h4⟩
 |iter s pos=>
  rcases h with h|⟨r,rfl,h1⟩
  ·exact .inl h
  ·exact .inr ⟨r,rfl,by rw[hb 0 r rfl];exact h1⟩
 |lay cells=>
  rcases h with h|⟨r,rfl,h1,h2,c,T,fr,h3,h4,h5,h6⟩
  ·exact .inl h
  ·refine .inr ⟨r,rfl,h1,h2,c,T,fr,by rw[hb 0 r rfl];exact h3,h4,h5,fun p hp'=>?_⟩
   obtain⟨x,u,q1,q2,q3⟩:=h6 p hp'
   exact⟨x,u,q1,q2,q3.le hG⟩
 |loop env ps asg body s p=>
  rcases h with h|⟨r,rfl,L,h1,h2,h3,h4,h5,h6,h7⟩
  ·exact .inl h
  ·exact .inr ⟨r,rfl,L,by rw[hb 0 r rfl];exact h1,h2,h3,h4,h5,h6,h7.le hG⟩
 |dfr=>
  rcases h with h|⟨r,rfl,h1⟩
  ·exact .inl h
  ·exact .inr ⟨r,rfl,by rw[hb 0 r rfl];exact h1⟩
 |zaU m=>
  rcases h with h|⟨r,rfl,h0,a,s,c,b,h1,h2⟩
  ·exact .inl h
  ·refine .inr ⟨r,rfl,h0,a,s,c,b,by rw[hb 0 r rfl];exact h1,?_⟩
   cases m with
   |none=>exact h2
   |some l=>obtain⟨rm,h3,h4⟩:=h2;exact⟨rm,hG _ _ _ h3,h4⟩
 |zbm k v it=>
  rcases h with h|⟨r,rfl,e,rit,h1,h2,h3,h4,h5⟩
  ·exact .inl h
  ·exact .inr ⟨r,rfl,e,rit,by rw[hb 0 r rfl];exact h1,h2.le hG,h3.le hG,hG _ _ _ h4,h5⟩
 |mit l s=>
  rcases h with h|⟨r,rfl,h0,rm,h1,h2⟩
  ·exact .inl h
  ·exact .inr ⟨r,rfl,h0,rm,hG _ _ _ h1,by rw[hb 0 r rfl];exact h2⟩
 |gone=>trivial
 |dead=>trivial
theorem HR.get{G:Gh}{B:Nat}{h:za}{w:World}(hr:HR G B h w){loc v:Nat}{r:Ver}(ha:G.at loc v=some r):∃ b vs,h[loc]?=some b/\G[loc]?=some vs/\vs[v]?=some r/\zje G w b vs:=by
 unfold Gh.at at ha
 cases hg:G[loc]? with
 |none=>rw[hg] at ha;cases ha
 |some vs=>
  rw[hg] at ha
  have hl:loc<h.length:=by rw[<- hr.len];exact(List.getElem?_eq_some_iff.1 hg).1
  obtain⟨b,hb⟩:=Arr.zk2 hl
  exact⟨b,vs,hb,rfl,ha,hr.blk _ _ _ hb hg⟩
theorem Gh.kk{G:Gh}{loc v:Nat}{vs:List Ver}{r:Ver}(h:G[loc]?=some vs)(hv:vs[v]?=some r):G.at loc v=some r:=by unfold Gh.at;rw[h];exact hv
theorem HR.grow{G:Gh}{B:Nat}{h:za}{w w':World}(hr:HR G B h w)(hs:w.heap.size<=w'.heap.size)(hb:∀ b,b<w.heap.size->w'.heap[b]?=w.heap[b]?):HR G B h w':=
 ⟨hr.len,fun loc b vs h1 h2=>(hr.blk loc b vs h1 h2).mono (Gh.le_refl _) fun v r hv=>hb _ (hr.lt loc v r (Gh.kk h2 hv)),fun loc v r h=>Nat.lt_of_lt_of_le (hr.lt loc v r h) hs,hr.own,hr.apart,Nat.le_trans hr.base hs⟩
theorem Step.grow{G:Gh}{B:Nat}{h:za}{w w':World}(hr:HR G B h w)(hs:w.heap.size<=w'.heap.size)(hb:∀ b,b<w.heap.size->w'.heap[b]?=w.heap[b]?)(ho:w'.os=w.os)(ht:w'.tape=w.tape)(hu:w'.output=w.output):
  Step G G B h w w':=⟨Gh.le_refl _,Gh.zhS _ _,hr.grow hs hb,⟨ho,ht,hu,hs,fun b h _=>hb b h⟩,fun _ h=>h⟩
theorem kl{G:Gh}{vs:List Ver}{loc v:Nat}{r:Ver}(h:Gh.at (G++[vs]) loc v=some r):G.at loc v=some r\/(loc=G.length/\vs[v]?=some r):=by
 unfold Gh.at at *
 rw[List.getElem?_append] at h
 split at h
 ·exact .inl h
 ·rename_i hl
  cases he:loc-G.length with
  |zero=>rw[he] at h;exact .inr ⟨by omega,h⟩
  |succ n=>rw[he] at h;simp at h
theorem Gh.wz(G:Gh)(vs:List Ver):G.le (G++[vs]):=by
 intro loc v r h
 unfold Gh.at at *
 cases hg:G[loc]? with
 |none=>rw[hg] at h;cases h
 |some vs'=>rw[hg] at h;rw[List.getElem?_append_left (List.getElem?_eq_some_iff.1 hg).1,hg];exact h
theorem Step.push{G:Gh}{B:Nat}{h:za}{w w':World}{blk:Blk}{vs:List Ver}(hr:HR G B h w)(ho:blk.own=true)(hs:w.heap.size<=w'.heap.size)(hb:∀ b,b<w.heap.size->w'.heap[b]?=w.heap[b]?)
  (h1:w'.os=w.os) (h2:w'.tape=w.tape) (h3:w'.output=w.output) (hv:∀ (v:Nat) (r:Ver),vs[v]?=some r->w.heap.size<=r.b/\r.b<w'.heap.size) (hB:zje (G++[vs]) w' blk vs):
  Step G (G++[vs]) B (h++[blk]) w w':=by
 refine⟨Gh.wz _ _,fun loc v r hat=>?_,⟨by rw[Arr.zv,List.length_append,hr.len];rfl,?_,?_,?_,?_,Nat.le_trans hr.base hs⟩,⟨h1,h2,h3,hs,fun b h _=>hb b h⟩,fun loc hl=>by rw[List.getElem?_append_left (List.getElem?_eq_some_iff.1 hl).1];exact hl⟩
 ·rcases kl hat with hat|⟨_,hat⟩
  ·exact .inr ⟨_,_,_,hat,rfl⟩
  ·exact .inl (hv _ _ hat).1
 ·intro loc b vs' hl hg
  by_cases hlt:loc<h.length
  ·rw[Arr.zO hlt] at hl
   rw[List.getElem?_append_left (by rw[hr.len];exact hlt)] at hg
   exact(hr.blk loc b vs' hl hg).mono (Gh.wz _ _) fun v r hv=>hb _ (hr.lt loc v r (Gh.kk hg hv))
  ·have hle:loc=h.length:=by
    have:=Arr.lt hl;rw[Arr.zv] at this;simp at this;omega
   subst hle
   rw[Arr.zt (by omega)] at hl
   rw[List.getElem?_append_right (by rw[hr.len];omega),hr.len] at hg
   simp at hl hg
   subst hl;subst hg;exact hB
 ·intro loc v r hat
  rcases kl hat with hat|⟨_,hat⟩
  ·exact Nat.lt_of_lt_of_le (hr.lt _ _ _ hat) hs
  ·exact(hv _ _ hat).2
 ·intro loc v r b hat hl
  rcases kl hat with hat|⟨hl',hat'⟩
  ·obtain⟨b',_,hb',_⟩:=hr.get hat
   have hlt:=Arr.lt hb'
   rw[Arr.zO hlt] at hl
   exact hr.own _ _ _ _ hat hl
  ·rw[hl',hr.len,Arr.zt (by omega)] at hl
   simp at hl;subst hl
   exact⟨fun _=>Nat.le_trans hr.base (hv _ _ hat').1,fun _=>ho⟩
 ·intro l1 l2 v1 v2 r1 r2 ha1 ha2 hB1 he
  rcases kl ha1 with h1|⟨e1,h1⟩<;>rcases kl ha2 with h2|⟨e2,h2⟩
  ·exact hr.apart _ _ _ _ _ _ h1 h2 hB1 he
  ·have:=hr.lt _ _ _ h1;have:=(hv _ _ h2).1;omega
  ·have:=hr.lt _ _ _ h2;have:=(hv _ _ h1).1;omega
  ·exact e1.trans e2.symm
theorem xS{G:Gh}{vs:List Ver}{l loc v:Nat}{r:Ver}(h:Gh.at (G.set l vs) loc v=some r):(loc≠l/\G.at loc v=some r)\/(loc=l/\vs[v]?=some r):=by
 unfold Gh.at at *
 rw[List.getElem?_set] at h
 split at h
 ·rename_i e
  split at h
  ·exact .inr ⟨e.symm,h⟩
  ·cases h
 ·rename_i e;exact .inl ⟨fun q=>e q.symm,h⟩
theorem Step.upd{G:Gh}{B:Nat}{h:za}{w w':World}{loc:Nat}{blk blk':Blk}{vs vs':List Ver}{b:Nat}(hr:HR G B h w)(hl:h[loc]?=some blk)(hg:G[loc]?=some vs)(ho:blk.own=true)(ho':blk'.own=true)
  (hbk:∃ (v:Nat) (r:Ver),vs[v]?=some r/\r.b=b) (hs:w.heap.size<=w'.heap.size) (hb:∀ k,k<w.heap.size->k≠b->w'.heap[k]?=w.heap[k]?) (h1:w'.os=w.os) (h2:w'.tape=w.tape) (h3:w'.output=w.output)
  (hle:∀ (v:Nat) (r:Ver),vs[v]?=some r->vs'[v]?=some r)
  (hv:∀ (v:Nat) (r:Ver),vs'[v]?=some r->(w.heap.size<=r.b/\r.b<w'.heap.size)\/∃ (v0:Nat) (r0:Ver),vs[v0]?=some r0/\r0.b=r.b)
  (hB:G.le (G.set loc vs')->zje (G.set loc vs') w' blk' vs'):Step G (G.set loc vs') B (h.set loc blk') w w':=by
 obtain⟨vb,rb,hvb,hrb⟩:=hbk
 have hBb:B<=b:=by rw[<- hrb];exact(hr.own _ _ _ _ (Gh.kk hg hvb) hl).1 ho
 have hgl:loc<G.length:=(List.getElem?_eq_some_iff.1 hg).1
 have hhl:loc<h.length:=Arr.lt hl
 have hlee:G.le (G.set loc vs'):=by
  intro l v r ha
  by_cases e:l=loc
  ·subst e
   unfold Gh.at at *
   rw[hg] at ha
   rw[List.getElem?_set_self hgl]
   exact hle _ _ ha
  ·unfold Gh.at at *
   rw[List.getElem?_set_ne (fun q=>e q.symm)];exact ha
 refine⟨hlee,fun l v r hat=>?_,⟨by rw[Arr.length_set,List.length_set];exact hr.len,?_,?_,?_,?_,Nat.le_trans hr.base hs⟩,⟨h1,h2,h3,hs,fun k hk hx=>hb k hk fun e=>hx _ _ _ (Gh.kk hg hvb) (hrb ▸ hBb) (hrb.trans e.symm)⟩,fun l hl0=>by
  by_cases e:l=loc
  ·subst e;rw[hg] at hl0;cases hl0;simp at hvb
  ·rw[List.getElem?_set_ne (fun q=>e q.symm)];exact hl0⟩
 ·rcases xS hat with⟨_,hat⟩|⟨rfl,hq⟩
  ·exact .inr ⟨_,_,_,hat,rfl⟩
  ·rcases hv _ _ hq with h|⟨v0,r0,h0,he⟩
   ·exact .inl h.1
   ·exact .inr ⟨_,_,_,Gh.kk hg h0,he⟩
 ·intro l b' vs'' hl' hg'
  by_cases e:l=loc
  ·subst e
   rw[Arr.zj hhl] at hl'
   rw[List.getElem?_set_self hgl] at hg'
   cases hl';cases hg'
   exact hB hlee
  ·rw[Arr.zk (fun q=>e q.symm)] at hl'
   rw[List.getElem?_set_ne (fun q=>e q.symm)] at hg'
   refine(hr.blk _ _ _ hl' hg').mono hlee fun v r hvr=>hb _ (hr.lt _ _ _ (Gh.kk hg' hvr)) fun e'=>?_
   exact e (hr.apart _ _ _ _ _ _ (Gh.kk hg' hvr) (Gh.kk hg hvb) (by omega) (by omega))
 ·intro l v r hat
  rcases xS hat with⟨_,hat⟩|⟨rfl,hq⟩
  ·exact Nat.lt_of_lt_of_le (hr.lt _ _ _ hat) hs
  ·rcases hv _ _ hq with h|⟨v0,r0,h0,he⟩
   ·exact h.2
   ·rw[<- he];exact Nat.lt_of_lt_of_le (hr.lt _ _ _ (Gh.kk hg h0)) hs
 ·intro l v r b' hat hl'
  rcases xS hat with⟨e,hat⟩|⟨rfl,hq⟩
  ·rw[Arr.zk (fun q=>e q.symm)] at hl'
   exact hr.own _ _ _ _ hat hl'
  ·rw[Arr.zj hhl] at hl'
   cases hl'
   rw[ho']
   refine⟨fun _=>?_,fun _=>rfl⟩
   rcases hv _ _ hq with h|⟨v0,r0,h0,he⟩
   ·exact Nat.le_trans hr.base h.1
   ·rw[<- he];exact(hr.own _ _ _ _ (Gh.kk hg h0) hl).1 ho
 ·intro l1 l2 v1 v2 r1 r2 ha1 ha2 hB1 he
  rcases xS ha1 with⟨e1,p1⟩|⟨e1,p1⟩<;>rcases xS ha2 with⟨e2,p2⟩|⟨e2,p2⟩
  ·exact hr.apart _ _ _ _ _ _ p1 p2 hB1 he
  ·subst e2
   rcases hv _ _ p2 with h|⟨v0,r0,h0,he0⟩
   ·have:=hr.lt _ _ _ p1;omega
   ·exact hr.apart _ _ _ _ _ _ p1 (Gh.kk hg h0) hB1 (he.trans he0.symm)
  ·subst e1
   rcases hv _ _ p1 with h|⟨v0,r0,h0,he0⟩
   ·have:=hr.lt _ _ _ p2;omega
   ·exact hr.apart _ _ _ _ _ _ (Gh.kk hg h0) p2 (by omega) (he0.trans he)
  ·exact e1.trans e2.symm
theorem Step.fill{G0 G:Gh}{B:Nat}{h:za}{w0 w w':World}{loc:Nat}{blk:Blk}{r:Ver}(hS:Step G0 G B h w0 w)(hl:h[loc]?=some blk)(hg:G[loc]?=some [])(h0:G0.length<=loc)(ho:blk.own=true)
  (hr1:w.heap.size<=r.b) (hr2:r.b<w'.heap.size) (hs:w.heap.size<=w'.heap.size) (hb:∀ k,k<w.heap.size->w'.heap[k]?=w.heap[k]?) (h1:w'.os=w.os) (h2:w'.tape=w.tape) (h3:w'.output=w.output)
  (hB:zje (G.set loc [r]) w' blk [r]):Step G0 (G.set loc [r]) B h w0 w':=by
 have hr:=hS.hr
 have hgl:loc<G.length:=(List.getElem?_eq_some_iff.1 hg).1
 have hone:∀ (v:Nat) (r':Ver),[r][v]?=some r'->r'=r:=by
  intro v r' hv
  cases v with
  |zero=>simp at hv;exact hv.symm
  |succ v=>simp at hv
 have hlee:G.le (G.set loc [r]):=by
  intro l v r' ha
  by_cases e:l=loc
  ·subst e
   unfold Gh.at at ha
   rw[hg] at ha
   simp at ha
  ·unfold Gh.at at *
   rw[List.getElem?_set_ne (fun q=>e q.symm)];exact ha
 refine⟨Gh.le_trans hS.le hlee,fun l v r' hat=>?_,⟨by simp [hr.len],?_,?_,?_,?_,Nat.le_trans hr.base hs⟩,⟨h1.trans hS.fr.os,h2.trans hS.fr.tape,h3.trans hS.fr.output,Nat.le_trans hS.fr.size hs,fun k hk hx=>(hb k (Nat.lt_of_lt_of_le hk hS.fr.size)).trans (hS.fr.low k hk hx)⟩,fun l hl0=>?_⟩
 ·rcases xS hat with⟨_,hat⟩|⟨rfl,hq⟩
  ·exact hS.new _ _ _ hat
  ·rw[hone _ _ hq];exact .inl (Nat.le_trans hS.fr.size hr1)
 ·intro l b' vs'' hl' hg'
  by_cases e:l=loc
  ·subst e
   rw[hl] at hl'
   rw[List.getElem?_set_self hgl] at hg'
   cases hl';cases hg'
   exact hB
  ·rw[List.getElem?_set_ne (fun q=>e q.symm)] at hg'
   exact(hr.blk _ _ _ hl' hg').mono hlee fun v r hvr=>hb _ (hr.lt _ _ _ (Gh.kk hg' hvr))
 ·intro l v r' hat
  rcases xS hat with⟨_,hat⟩|⟨rfl,hq⟩
  ·exact Nat.lt_of_lt_of_le (hr.lt _ _ _ hat) hs
  ·rw[hone _ _ hq];exact hr2
 ·intro l v r' b' hat hl'
  rcases xS hat with⟨e,hat⟩|⟨rfl,hq⟩
  ·exact hr.own _ _ _ _ hat hl'
  ·rw[hl] at hl'
   cases hl'
   rw[hone _ _ hq]
   exact⟨fun _=>Nat.le_trans hr.base hr1,fun _=>ho⟩
 ·intro l1 l2 v1 v2 r1 r2 ha1 ha2 hB1 he
  rcases xS ha1 with⟨e1,p1⟩|⟨e1,p1⟩<;>rcases xS ha2 with⟨e2,p2⟩|⟨e2,p2⟩
  ·exact hr.apart _ _ _ _ _ _ p1 p2 hB1 he
  ·have:=hr.lt _ _ _ p1;rw[hone _ _ p2] at he;omega
  ·have:=hr.lt _ _ _ p2;rw[hone _ _ p1] at he;omega
  ·exact e1.trans e2.symm
 ·have:l<G0.length:=(List.getElem?_eq_some_iff.1 hl0).1
  rw[List.getElem?_set_ne (by omega)]
  exact hS.hole _ hl0
abbrev AV.undef:AV:=.tup []
def rd(h:za)(loc off ver lim n:Nat):Option (List AV):=
 match h[loc]? with
 |some (.row cells _ minv _ _ _)=>if minv<=ver/\off+n<=lim then some ((cells.drop off).take n) else none
 |some (.lay cells)=>if off+n<=lim then some ((cells.drop off).take n) else none
 |_=>none
def wr(h:za)(loc off ver lim:Nat)(vs:List AV):Option za:=
 match h[loc]? with
 |some (.row cells v _ frz false tt)=>if ver=v/\frz<=off/\off+vs.length<=lim/\vs.all AV.one=true then some (h.set loc (.row (cells.take off++vs++cells.drop (off+vs.length)) v v frz false tt)) else none
 |_=>none
def w9(h:za)(cells:List AV)(t:TypeId):za:=h++[Blk.row cells 0 0 0 false (some t)]
section
variable {P:Program} {G G':Gh} {B:Nat} {h h':za} {w w':World}
theorem zD{loc off ver lim n:Nat}{xs:List AV}{r:Ver}(hr:HR G B h w)(he:rd h loc off ver lim n=some xs)(ha:G.at loc ver=some r)(h1:r.lo<=off)(h2:lim<=r.top):
  ∃ us,VL G xs us/\us.length=n/\∀ (j:Nat) (u:Value),us[j]?=some u->w.cell? ⟨r.b,off+r.sh-r.lo+j,none⟩=some u:=by
 obtain⟨b,vs,hb,hg,hv,hR⟩:=hr.get ha
 unfold rd at he
 rw[hb] at he
 cases b with
 |row cells ver' minv frz ro tt=>
  simp only at he
  split at he
  ·rename_i hc
   cases he
   rcases hR with rfl|hR
   ·simp at hv
   obtain⟨c,T,fr,q1,qt,q2,q3,q4⟩:=hR.cell ver r hv hc.1
   have ht:=hR.zlq ver r hv
   rw[hR.sh0 ver r hv,Nat.add_zero]
   refine⟨(c.toList.drop (off-r.lo)).take n,?_,?_,?_⟩
   ·refine VL.za2 ?_ fun i x u hx hu=>?_
    ·simp only[List.length_take,List.length_drop,Array.length_toList];omega
    ·rw[List.getElem?_take] at hx hu
     split at hx
     ·rename_i hi
      rw[if_pos hi] at hu
      rw[List.getElem?_drop] at hx hu
      obtain⟨x',u',e1,e2,e3⟩:=q4 (off+i) (by omega) (by omega)
      rw[e1] at hx;cases hx
      rw[show off+i-r.lo=off-r.lo+i from by omega] at e2
      rw[Array.getElem?_toList,e2] at hu;cases hu
      exact e3
     ·cases hx
   ·simp only[List.length_take,List.length_drop,Array.length_toList];omega
   ·intro j u hu
    rw[List.getElem?_take] at hu
    split at hu
    ·rw[List.getElem?_drop,Array.getElem?_toList] at hu
     unfold World.cell?
     simp only[q1,Option.isSome_none,Bool.false_eq_true,if_false]
     exact hu
    ·cases hu
  ·cases he
 |lay cells=>
  simp only at he
  split at he
  ·rename_i hc
   cases he
   rcases hR with rfl|⟨r0,rfl,hl,ht,c,T,fr,q1,q2,q3,q4⟩
   ·simp at hv
   have hr0:r=r0:=by
    cases ver with
    |zero=>simp at hv;exact hv.symm
    |succ v=>simp at hv
   subst hr0
   rw[hl,Nat.sub_zero]
   refine⟨(c.toList.drop (off+r.sh)).take n,?_,?_,?_⟩
   ·refine VL.za2 ?_ fun i x u hx hu=>?_
    ·simp only[List.length_take,List.length_drop,Array.length_toList];omega
    ·rw[List.getElem?_take] at hx hu
     split at hx
     ·rename_i hi
      rw[if_pos hi] at hu
      rw[List.getElem?_drop] at hx hu
      obtain⟨x',u',e1,e2,e3⟩:=q4 (off+i) (by omega)
      rw[show off+i+r.sh=off+r.sh+i from by omega] at e2
      rw[e1] at hx;cases hx
      rw[Array.getElem?_toList,e2] at hu;cases hu
      exact e3
     ·cases hx
   ·simp only[List.length_take,List.length_drop,Array.length_toList];omega
   ·intro j u hu
    rw[List.getElem?_take] at hu
    split at hu
    ·rw[List.getElem?_drop,Array.getElem?_toList] at hu
     unfold World.cell?
     simp only[q1,Option.isSome_none,Bool.false_eq_true,if_false]
     exact hu
    ·cases hu
  ·cases he
 |map es=>simp at he
 |iter s pos=>simp at he
 |dead=>simp at he
 |loop env ps asg body st pd=>simp at he
 |dfr=>simp at he
 |zaU m=>simp at he
 |zbm k v it=>simp at he
 |mit l s=>simp at he
 |gone=>simp at he
theorem run_storeCells_at(b off:Nat)(T:TypeId)(fr:Nat×Nat):∀ (vs:List Value) (i:Nat) (cells:List Value) (w:World),w.heap[b]?=some (.cells cells.toArray T fr)->(∀ j,off<=j->j<cells.length->¬ (fr.1<=j/\j<fr.2)) ->
  off+i+vs.length<=cells.length->(∀ u ∈ vs,u.oneCell'=true) ->
  ∃ w',(storeCells ⟨b,off,none⟩ vs i).run P w=.ok () w'/\w'.heap[b]?=some (.cells (cells.take (off+i)++vs++cells.drop (off+i+vs.length)).toArray T fr)/\w'.heap.size=w.heap.size/\w'.os=w.os/\w'.tape=w.tape/\w'.output=w.output /\
   ∀ k,k≠b->w'.heap[k]?=w.heap[k]?
 | [],i,cells,w,hb,_,_,_=>by
  refine⟨w,by simp [storeCells],by simpa using hb,rfl,rfl,rfl,rfl,fun _ _=>rfl⟩
 |v::vs,i,cells,w,hb,hfz,hl,h1=>by
  have hil:off+i<cells.length:=by simp at hl;omega
  have hcell:w.cell? ⟨b,off+i,none⟩=some cells[off+i]:=by
   rw[cell_of_row w b (off+i) _ _ _ hb];simp
  have hfr:w.frozen? ⟨b,off+i,none⟩=false:=by
   have:=hfz (off+i) (by omega) hil
   simp only[World.frozen?,hb]
   simpa using this
  have hs:=run_store P w ⟨b,off+i,none⟩ v .plain (h1 v (by simp))
  have hst:(store ⟨b,off+i,none⟩ v).run P w=.ok () (w.setCell ⟨b,off+i,none⟩ v):=by rw[hs];simp [hcell,hfr]
  have hb2:(w.setCell ⟨b,off+i,none⟩ v).heap[b]?=some (.cells (cells.set (off+i) v).toArray T fr):=by
   simp [World.setCell,Array.getElem?_modify,hb]
  obtain⟨w',hr,hb',hsz,ho,ht,hu,hk⟩:=run_storeCells_at b off T fr vs (i+1) (cells.set (off+i) v) _ hb2 (by simpa using hfz) (by simp at hl |-;omega) (fun u hu=>h1 u (by simp [hu]))
  refine⟨w',?_,?_,by rw[hsz];simp,ho,ht,hu,fun k hk'=>(hk k hk').trans (heap_setCell_other _ _ _ _ hk')⟩
  ·simp only[storeCells,Addr.add_lit,Sem.run_bind,hst,Result.andThen_ok,hr]
  ·rw[hb']
   congr 3
   simp only[List.length_cons] at hl |-
   rw[show off+(i+1)=off+i+1 from by omega,List.take_add_one,List.take_set_of_le (by omega),List.getElem?_set_self (by omega),List.drop_set_of_lt (by omega)]
   simp;congr 1;omega
theorem VL.one{vs:List AV}{us:List Value}(hv:VL G vs us)(h1:vs.all AV.one=true):∀ u ∈ us,u.oneCell'=true:=by
 induction vs generalizing us with
 |nil=>cases hv;simp
 |cons x vs ih=>
  cases hv with
  |cons hx t=>
   simp at h1
   intro u hu
   rcases List.mem_cons.1 hu with rfl|hu
   ·exact hx.one h1.1
   ·exact ih t (by simpa using h1.2) u hu
theorem qJ{α:Type}{l:List α}{i:Nat}{x:α}(h:l[i]?=some x):l.set i x=l:=by
 obtain⟨hl,rfl⟩:=List.getElem?_eq_some_iff.1 h
 exact List.set_getElem_self hl
theorem zfS{cells:List AV}{ver minv frz:Nat}{tt:Option TypeId}{vs:List Ver}{r:Ver}{c:Array Value}{T:TypeId}{fr:Nat×Nat}{off:Nat}{us:List Value}{c':Array Value}
  (hR:zlK G w cells ver minv frz tt vs) (hv:vs[ver]?=some r) (h1:r.lo<=off) {xs:List AV} (hx:VL G xs us) (hend:off+xs.length<=cells.length)
  (hc:w.heap[r.b]?=some (.cells c T fr)) (hb:w'.heap[r.b]?=some (.cells c' T fr)) (hc':c'.toList=c.toList.take (off-r.lo)++us++c.toList.drop (off-r.lo+us.length)):
  zlK G w' (cells.take off++xs++cells.drop (off+xs.length)) ver ver frz tt vs:=by
 obtain⟨c0,T0,fr0,q1,qt,q2,q3,q4⟩:=hR.cell ver r hv hR.jm
 rw[hc] at q1
 cases q1
 obtain⟨ht,c1,T1,fr1,q5,q6,q7,q8⟩:=hR.tip r hv
 rw[hc] at q5
 cases q5
 have hul:=hx.length
 have hlen:(cells.take off++xs++cells.drop (off+xs.length)).length=cells.length:=by simp;omega
 have hsz:c'.size=c.size:=by
  rw[<- Array.length_toList,hc',<- Array.length_toList]
  simp only[List.length_append,List.length_take,List.length_drop,Array.length_toList]
  omega
 refine⟨hR.len,fun v r' hv' hm=>?_,fun r' hv'=>?_,fun v r' hv'=>by rw[hlen];exact hR.zlq v r' hv',hR.same,Nat.le_refl _,hR.sh0,by rw[hlen];exact hR.zdC⟩
 ·have:v=ver:=by
   have:=(List.getElem?_eq_some_iff.1 hv').1
   have:=hR.len;omega
  subst this
  rw[hv] at hv';cases hv'
  refine⟨c',T,fr,hb,qt,by rw[hsz];exact q2,q3,fun p hp hp'=>?_⟩
  have hcp:∀ j,c'[j]?=c'.toList[j]?:=fun j=>by rw[Array.getElem?_toList]
  rw[hcp,hc']
  by_cases ha:p<off
  ·obtain⟨x,u,e1,e2,e3⟩:=q4 p hp (by omega)
   refine⟨x,u,?_,?_,e3⟩
   ·rw[List.append_assoc,List.getElem?_append_left (by simp;omega),List.getElem?_take_of_lt ha];exact e1
   ·rw[List.append_assoc,List.getElem?_append_left (by simp;omega),List.getElem?_take_of_lt (by omega),Array.getElem?_toList];exact e2
  ·by_cases hb':p<off+xs.length
   ·have hpx:p-off<xs.length:=by omega
    obtain⟨u,e1,e2⟩:=hx.get (List.getElem?_eq_getElem hpx)
    refine⟨_,u,?_,?_,e2⟩
    ·rw[List.append_assoc,List.getElem?_append_right (by simp;omega)]
     simp only[List.length_take]
     rw[List.getElem?_append_left (by omega),show p-min off cells.length=p-off from by omega]
     exact List.getElem?_eq_getElem hpx
    ·rw[List.append_assoc,List.getElem?_append_right (by simp;omega)]
     simp only[List.length_take,Array.length_toList]
     rw[List.getElem?_append_left (by omega),show p-r.lo-min (off-r.lo) c.size=p-off from by omega]
     exact e1
   ·obtain⟨x,u,e1,e2,e3⟩:=q4 p hp hp'
    refine⟨x,u,?_,?_,e3⟩
    ·rw[List.getElem?_append_right (by simp;omega),List.getElem?_drop]
     simp only[List.length_append,List.length_take]
     rw[show off+xs.length+(p-(min off cells.length+xs.length))=p from by omega];exact e1
    ·rw[List.getElem?_append_right (by simp;omega),List.getElem?_drop]
     simp only[List.length_append,List.length_take,Array.length_toList]
     rw[show off-r.lo+us.length+(p-r.lo-(min (off-r.lo) c.size+us.length))=p-r.lo from by omega,Array.getElem?_toList];exact e2
 ·rw[hv] at hv';cases hv'
  refine⟨by rw[hlen];exact ht,c',T,fr,hb,q6,(fun j hj hjc=>q7 j hj (by omega)),q8⟩
theorem zcy{loc off ver lim:Nat}{xs:List AV}{us:List Value}{r:Ver}(hr:HR G B h w)(he:wr h loc off ver lim xs=some h')(ha:G.at loc ver=some r)(h1:r.lo<=off)(h2:lim<=r.top)(hx:VL G xs us):
  ∃ w',(storeCells ⟨r.b,off+r.sh-r.lo,none⟩ us).run P w=.ok () w'/\Step G G B h' w w':=by
 obtain⟨b,vs,hb,hg,hv,hR⟩:=hr.get ha
 unfold wr at he
 rw[hb] at he
 cases b with
 |row cells ver' minv frz ro tt=>
  cases ro with
  |true=>simp at he
  |false=>
   simp only at he
   split at he
   ·rename_i hc
    obtain⟨rfl,hf,hl,hone⟩:=hc
    cases he
    rcases hR with rfl|hR
    ·simp at hv
    obtain⟨c,T,fr,q1,qt,q2,q3,q4⟩:=hR.cell ver r hv hR.jm
    obtain⟨ht,c1,T1,fr1,q5,q6,q7,q8⟩:=hR.tip r hv
    rw[q1] at q5;cases q5
    have hul:=hx.length
    rw[hR.sh0 ver r hv,Nat.add_zero]
    obtain⟨w',hrun,hb',hsz,ho,htp,hu,hk⟩:=run_storeCells_at (P:=P) r.b (off-r.lo) T fr us 0 c.toList w (by simpa using q1) (fun j hj hjc=>q7 j (by omega) (by simpa using hjc)) (by simp;omega) (hx.one hone)
    refine⟨w',hrun,?_⟩
    have hS:=Step.upd (vs':=vs) (blk':=.row (cells.take off++xs++cells.drop (off+xs.length)) ver ver frz false tt) hr hb hg rfl rfl ⟨ver,r,hv,rfl⟩ (Nat.le_of_eq hsz.symm) (fun k _=>hk k) ho htp hu (fun _ _ h=>h) (fun v r' h=>.inr ⟨v,r',h,rfl⟩)
     (fun _=>.inr (by
      rw[qJ hg]
      exact zfS hR hv h1 hx (by omega) q1 hb' (by simp)))
    rw[qJ hg] at hS
    exact hS
   ·cases he
 |lay cells=>simp at he
 |map es=>simp at he
 |iter s pos=>simp at he
 |dead=>simp at he
 |loop env ps asg body st pd=>simp at he
 |dfr=>simp at he
 |zaU m=>simp at he
 |zbm k v it=>simp at he
 |mit l s=>simp at he
 |gone=>simp at he
theorem Step.zkk{cells:List AV}{us:List Value}{c:Array Value}{T:TypeId}{fr:Nat×Nat}{tt:Option TypeId}(htt:∀ t,tt=some t->T=t)(hf0:tt.isSome=true->fr.1=fr.2)(hr:HR G B h w)(hx:VL G cells us)(hc:∀ p,p<cells.length->c[p]?=us[p]?)(hfr:fr.1<=fr.2/\∀ j,j<c.size->¬ (fr.1<=j/\j<fr.2))
  (hw:w'.heap[w.heap.size]?=some (.cells c T fr)) (hs:w.heap.size<w'.heap.size) (hb:∀ b,b<w.heap.size->w'.heap[b]?=w.heap[b]?) (h1:w'.os=w.os) (h2:w'.tape=w.tape) (h3:w'.output=w.output):
  Step G (G++[[⟨w.heap.size,0,cells.length,c.size,0⟩]]) B (h++[Blk.row cells 0 0 0 false tt]) w w':=by
 have hcs:cells.length<=c.size:=by
  by_cases h0:cells.length=0
  ·omega
  ·have:=hc (cells.length-1) (by omega)
   rw[List.getElem?_eq_getElem (by rw[hx.length];omega)] at this
   have:=(Array.getElem?_eq_some_iff.1 this).1
   omega
 refine Step.push (blk:=.row cells 0 0 0 false tt) hr rfl (Nat.le_of_lt hs) hb h1 h2 h3 (fun v r hv=>?_) (Or.inr ⟨rfl,fun v r hv _=>?_,fun r hv=>?_,fun v r hv=>?_,fun v1 v2 r1 r2 e1 e2 _=>?_,Nat.le_refl _,fun v r hv=>(by cases v with|zero=>simp at hv;rw[<- hv]|succ v=>simp at hv),by simp⟩)
 ·cases v with
  |zero=>simp at hv;subst hv;exact⟨Nat.le_refl _,hs⟩
  |succ v=>simp at hv
 ·cases v with
  |zero=>
   simp at hv;subst hv
   refine⟨c,T,fr,hw,htt,rfl,by simpa using hcs,fun p _ hp=>?_⟩
   have hp':p<cells.length:=hp
   obtain⟨u,e1,e2⟩:=hx.get (List.getElem?_eq_getElem hp')
   exact⟨_,u,List.getElem?_eq_getElem hp',by rw[Nat.sub_zero,hc p hp',e1],e2.le (Gh.wz _ _)⟩
  |succ v=>simp at hv
 ·simp at hv;subst hv
  exact⟨rfl,c,T,fr,hw,hfr.1,fun j _ hj=>hfr.2 j hj,fun e=>.inl (hf0 e)⟩
 ·cases v with
  |zero=>simp at hv;subst hv;simp
  |succ v=>simp at hv
 ·cases v1<;>cases v2<;>simp at e1 e2
  subst e1;subst e2;rfl
theorem Step.newRow{cells:List AV}{us:List Value}{c:Array Value}{T:TypeId}(hr:HR G B h w)(hx:VL G cells us)(hc:∀ p,p<cells.length->c[p]?=us[p]?)
  (hw:w'.heap[w.heap.size]?=some (.cells c T (0,0))) (hs:w.heap.size<w'.heap.size) (hb:∀ b,b<w.heap.size->w'.heap[b]?=w.heap[b]?) (h1:w'.os=w.os) (h2:w'.tape=w.tape) (h3:w'.output=w.output):
  Step G (G++[[⟨w.heap.size,0,cells.length,c.size,0⟩]]) B (w9 h cells T) w w':=
 Step.zkk (fun t e=>Option.some.inj e) (fun _=>rfl) hr hx hc ⟨Nat.le_refl _,fun j _ q=>by omega⟩ hw hs hb h1 h2 h3
theorem jz{vs:List Ver}{v:Nat}:(G++[vs]).at G.length v=vs[v]?:=by unfold Gh.at;rw[List.getElem?_append_right (by omega)];simp
end
def app(h:za)(el:TypeId)(s:AV)(sz:Nat)(xs:List AV)(k:Nat):Option (AV×za):=
 if xs.all AV.one=true/\xs.length=k*sz/\0<sz then
  match s with
  |.qj=>if k=0 then some (.qj,h) else if k<549755813888 then some (.sl h.length 0 k sz 0 false,w9 h xs el) else none
  |.sl loc off len sz' ver clip=>
   if sz'=sz/\len+k<549755813888 then
    if k=0 then some (s,h) else
    if clip then(rd h loc off ver (off+len*sz) (len*sz)).bind fun old=>some (.sl h.length 0 (len+k) sz 0 false,w9 h (old++xs) el)
    else match h[loc]? with
     |some (.row cells v minv frz false tt)=>
      if ver=v then
       if off+len*sz=cells.length then some (.sl loc off (len+k) sz (v+1) false,h.set loc (.row (cells++xs) (v+1) minv frz false (if tt=some el then tt else none)))
       else if off+len*sz+k*sz<=cells.length/\frz<=off+len*sz then
        some (.sl loc off (len+k) sz v false,h.set loc (.row (cells.take (off+len*sz)++xs++cells.drop (off+len*sz+xs.length)) v v frz false tt))
       else none
      else none
     |_=>none
   else none
  |_=>none
 else none
section
variable {P:Program} {G G':Gh} {B:Nat} {h h':za} {w w':World}
theorem ziD{a b c z:Nat}(hz:0<z)(h:a*z+b*z<=c*z):a+b<=c:=by
 rw[<- Nat.add_mul] at h;exact Nat.le_of_mul_le_mul_right h hz
theorem zpL{cells:List AV}{ver minv frz:Nat}{tt tt':Option TypeId}(htt:∀ t,tt'=some t->tt=some t){vs:List Ver}{r:Ver}{c:Array Value}{T:TypeId}{fr:Nat×Nat}{us:List Value}{c':Array Value}{G':Gh}
  (hR:zlK G w cells ver minv frz tt vs) (hv:vs[ver]?=some r) {xs:List AV} (hx:VL G xs us) (hroom:cells.length+xs.length<=r.lo+r.size) (hG:G.le G')
  (hc:w.heap[r.b]?=some (.cells c T fr)) (hb:w'.heap[r.b]?=some (.cells c' T fr)) (ho:∀ k,k<w.heap.size->k≠r.b->w'.heap[k]?=w.heap[k]?) (hlt:∀ (v:Nat) (r:Ver),vs[v]?=some r->r.b<w.heap.size)
  (hc':c'.toList=c.toList.take (cells.length-r.lo)++us++c.toList.drop (cells.length-r.lo+us.length)):
  zlK G' w' (cells++xs) (ver+1) minv frz tt' (vs++[{ r with top:=cells.length+xs.length }]):=by
 obtain⟨c0,T0,fr0,q1,qt,q2,q3,q4⟩:=hR.cell ver r hv hR.jm
 rw[hc] at q1
 cases q1
 obtain⟨ht,c1,T1,fr1,q5,q6,q7,q8⟩:=hR.tip r hv
 rw[hc] at q5
 cases q5
 have hul:=hx.length
 have htops:=hR.zlq _ _ hv
 have hsz:c'.size=c.size:=by
  rw[<- Array.length_toList,hc',<- Array.length_toList]
  simp only[List.length_append,List.length_take,List.length_drop,Array.length_toList]
  omega
 have hcp:∀ j,c'[j]?=c'.toList[j]?:=fun j=>by rw[Array.getElem?_toList]
 have hlow:∀ j,j<cells.length-r.lo->c'[j]?=c[j]?:=fun j hj=>by
  rw[hcp,hc',List.append_assoc,List.getElem?_append_left (by simp;omega),List.getElem?_take_of_lt hj,Array.getElem?_toList]
 have hget:∀ (v:Nat) (r':Ver),(vs++[{ r with top:=cells.length+xs.length }])[v]?=some r'->(vs[v]?=some r'/\v<=ver)\/(v=ver+1/\r'={ r with top:=cells.length+xs.length }):=by
  intro v r' h
  rw[List.getElem?_append] at h
  split at h
  ·have:=(List.getElem?_eq_some_iff.1 h).1
   exact .inl ⟨h,by have:=hR.len;omega⟩
  ·rename_i hlt
   cases hd:v-vs.length with
   |zero=>
    rw[hd] at h
    exact .inr ⟨by have:=hR.len;omega,by simpa using h.symm⟩
   |succ n=>rw[hd] at h;simp at h
 refine⟨by simp [hR.len],fun v r' hv' hm=>?_,fun r' hv'=>?_,fun v r' hv'=>?_,fun v1 v2 r1 r2 e1 e2 he=>?_,by have:=hR.jm;omega,fun v r' hv'=>(by
  rcases hget v r' hv' with⟨h,_⟩|⟨_,rfl⟩
  ·exact hR.sh0 _ _ h
  ·have h:=hR.sh0 ver r hv
   exact h),by have:=hR.zdC;simp;omega⟩
 ·rcases hget v r' hv' with⟨hv',hle⟩|⟨rfl,rfl⟩
  ·obtain⟨c2,T2,fr2,p1,pt,p2,p3,p4⟩:=hR.cell v r' hv' hm
   have htr:=hR.zlq _ _ hv'
   by_cases hbb:r'.b=r.b
   ·have hlo:=hR.same _ _ _ _ hv' hv hbb
    rw[hbb,hc] at p1
    cases p1
    refine⟨c',T,fr,by rw[hbb];exact hb,fun t e=>pt t (htt t e),by omega,p3,fun p hp hp'=>?_⟩
    obtain⟨x,u,e1,e2,e3⟩:=p4 p hp hp'
    exact⟨x,u,by rw[List.getElem?_append_left (by omega)];exact e1,by rw[hlow _ (by omega)];exact e2,e3.le hG⟩
   ·refine⟨c2,T2,fr2,by rw[ho _ (hlt _ _ hv') hbb];exact p1,fun t e=>pt t (htt t e),p2,p3,fun p hp hp'=>?_⟩
    obtain⟨x,u,e1,e2,e3⟩:=p4 p hp hp'
    exact⟨x,u,by rw[List.getElem?_append_left (by omega)];exact e1,e2,e3.le hG⟩
  ·refine⟨c',T,fr,hb,fun t e=>qt t (htt t e),by simp [hsz,q2],by simpa using hroom,fun p hp hp'=>?_⟩
   simp only at hp hp'
   by_cases ha:p<cells.length
   ·obtain⟨x,u,e1,e2,e3⟩:=q4 p hp (by omega)
    exact⟨x,u,by rw[List.getElem?_append_left ha];exact e1,by show c'[p-r.lo]?=_;rw[hlow _ (by omega)];exact e2,e3.le hG⟩
   ·have hpx:p-cells.length<xs.length:=by omega
    obtain⟨u,e1,e2⟩:=hx.get (List.getElem?_eq_getElem hpx)
    refine⟨_,u,by rw[List.getElem?_append_right (by omega)];exact List.getElem?_eq_getElem hpx,?_,e2.le hG⟩
    rw[hcp,hc',List.append_assoc,List.getElem?_append_right (by simp;omega)]
    simp only[List.length_take,Array.length_toList]
    rw[List.getElem?_append_left (by omega),show p-r.lo-min (cells.length-r.lo) c.size=p-cells.length from by omega]
    exact e1
 ·rw[show ver+1=vs.length from hR.len.symm,List.getElem?_append_right (Nat.le_refl _)] at hv'
  simp at hv';subst hv'
  exact⟨by simp,c',T,fr,hb,q6,(fun j hj hjc=>q7 j hj (by omega)),fun e=>q8 (by obtain⟨t,e⟩:=Option.isSome_iff_exists.1 e;rw[htt t e];rfl)⟩
 ·rcases hget v r' hv' with⟨hv',hle⟩|⟨rfl,rfl⟩
  ·have:=hR.zlq _ _ hv';simp;omega
  ·simp;omega
 ·rcases hget v1 r1 e1 with⟨h1,_⟩|⟨_,rfl⟩<;>rcases hget v2 r2 e2 with⟨h2,_⟩|⟨_,rfl⟩
  ·exact hR.same _ _ _ _ h1 h2 he
  ·exact(hR.same _ _ _ _ h1 hv he :)
  ·exact(hR.same _ _ _ _ hv h2 he :)
  ·rfl
theorem zkB{cells:List AV}{ver minv frz off nb:Nat}{tt tt':Option TypeId}(htt:∀ t,tt'=some t->tt=some t){vs:List Ver}{us:List Value}{c':Array Value}{T:TypeId}{fr:Nat×Nat}{G':Gh}
  (hR:zlK G w cells ver minv frz tt vs) (hT:∀ t,tt'=some t->T=t) {xs:List AV} (hx:VL G xs us) (h2:off<=cells.length) (hG:G.le G') (hn:w.heap.size<=nb)
  (hb:w'.heap[nb]?=some (.cells c' T fr)) (hfr:fr.1<=fr.2/\∀ j,j<c'.size->¬ (fr.1<=j/\j<fr.2)) (hf0:fr.1=fr.2) (ho:∀ k,k<w.heap.size->w'.heap[k]?=w.heap[k]?) (hlt:∀ (v:Nat) (r:Ver),vs[v]?=some r->r.b<w.heap.size)
  {olds:List Value} (hol:VL G (cells.drop off) olds) (hc':∀ (j:Nat) (u:Value),(olds++us)[j]?=some u->c'[j]?=some u):
  zlK G' w' (cells++xs) (ver+1) minv frz tt' (vs++[⟨nb,off,cells.length+xs.length,c'.size,0⟩]):=by
 have hul:=hx.length
 have hoo:=hol.length
 simp only[List.length_drop] at hoo
 have hall:VL G (cells.drop off++xs) (olds++us):=hol.append hx
 have hget:∀ (v:Nat) (r':Ver),(vs++[(⟨nb,off,cells.length+xs.length,c'.size,0⟩:Ver)])[v]?=some r'->(vs[v]?=some r'/\v<=ver)\/(v=ver+1/\r'=⟨nb,off,cells.length+xs.length,c'.size,0⟩):=by
  intro v r' h
  rw[List.getElem?_append] at h
  split at h
  ·have:=(List.getElem?_eq_some_iff.1 h).1
   exact .inl ⟨h,by have:=hR.len;omega⟩
  ·rename_i hlt
   cases hd:v-vs.length with
   |zero=>
    rw[hd] at h
    exact .inr ⟨by have:=hR.len;omega,by simpa using h.symm⟩
   |succ n=>rw[hd] at h;simp at h
 have hsize:cells.length+xs.length<=off+c'.size:=by
  by_cases h0:olds.length+us.length=0
  ·omega
  ·have hj:(olds++us).length-1<(olds++us).length:=by rw[List.length_append];omega
   have:=hc' _ _ (List.getElem?_eq_getElem hj)
   have hq:=(Array.getElem?_eq_some_iff.1 this).1
   rw[List.length_append] at hq
   omega
 refine⟨by simp [hR.len],fun v r' hv' hm=>?_,fun r' hv'=>?_,fun v r' hv'=>?_,fun v1 v2 r1 r2 e1 e2 he=>?_,by have:=hR.jm;omega,fun v r' hv'=>(by
  rcases hget v r' hv' with⟨h,_⟩|⟨_,rfl⟩
  ·exact hR.sh0 _ _ h
  ·rfl),by have:=hR.zdC;simp;omega⟩
 ·rcases hget v r' hv' with⟨hv',hle⟩|⟨rfl,rfl⟩
  ·obtain⟨c2,T2,fr2,p1,pt,p2,p3,p4⟩:=hR.cell v r' hv' hm
   have htr:=hR.zlq _ _ hv'
   refine⟨c2,T2,fr2,by rw[ho _ (hlt _ _ hv')];exact p1,fun t e=>pt t (htt t e),p2,p3,fun p hp hp'=>?_⟩
   obtain⟨x,u,e1,e2,e3⟩:=p4 p hp hp'
   exact⟨x,u,by rw[List.getElem?_append_left (by omega)];exact e1,e2,e3.le hG⟩
  ·refine⟨c',T,fr,hb,hT,rfl,hsize,fun p hp hp'=>?_⟩
   simp only at hp hp'
   have hp2:p-off<(cells.drop off++xs).length:=by simp;omega
   obtain⟨u,e1,e2⟩:=hall.get (List.getElem?_eq_getElem hp2)
   refine⟨_,u,?_,hc' _ _ e1,e2.le hG⟩
   rw[<- List.getElem?_eq_getElem hp2]
   by_cases ha:p<cells.length
   ·rw[List.getElem?_append_left ha,List.getElem?_append_left (by simp;omega),List.getElem?_drop];congr 1;omega
   ·rw[List.getElem?_append_right (by omega),List.getElem?_append_right (by simp;omega)];congr 1;simp;omega
 ·rw[show ver+1=vs.length from hR.len.symm,List.getElem?_append_right (Nat.le_refl _)] at hv'
  simp at hv';subst hv'
  exact⟨by simp,c',T,fr,hb,hfr.1,(fun j _ hj=>hfr.2 j hj),fun _=>.inl hf0⟩
 ·rcases hget v r' hv' with⟨hv',hle⟩|⟨rfl,rfl⟩
  ·have:=hR.zlq _ _ hv';simp;omega
  ·simp;omega
 ·rcases hget v1 r1 e1 with⟨h1,_⟩|⟨_,rfl⟩<;>rcases hget v2 r2 e2 with⟨h2,_⟩|⟨_,rfl⟩
  ·exact hR.same _ _ _ _ h1 h2 he
  ·have:=hlt _ _ h1;simp at he;omega
  ·have:=hlt _ _ h2;simp at he;omega
  ·rfl
theorem zhq{tt:Option TypeId}{e:TypeId}:∀ t,(if tt=some e then tt else none)=some t->tt=some t:=by
 intro t h
 split at h
 ·exact h
 ·cases h
theorem znx{tt:Option TypeId}{e:TypeId}:∀ t,(if tt=some e then tt else none)=some t->e=t:=by
 intro t h
 split at h
 ·rename_i he;rw[he] at h;exact Option.some.inj h
 ·cases h
theorem zjm{vs:List Ver}{loc v:Nat}(hl:loc<G.length):Gh.at (G.set loc vs) loc v=vs[v]?:=by unfold Gh.at;rw[List.getElem?_set_self hl];rfl
end
section
variable {P:Program} {G G':Gh} {B:Nat} {h h':za} {w w':World}
theorem fits{a bytes:Nat}(h:a<549755813888)(hb:bytes<=256):a*bytes<=140737488355328:=by
 have:a*bytes<=549755813888*256:=Nat.mul_le_mul (by omega) hb
 omega
theorem zcN{e:TypeId}{z:Value}{sz:Nat}{olds news:List Value}{cells:List AV}{n k cap:Nat}(hr:HR G B h w)(hx:VL G cells (olds++news))(hzs:z.cells.size=sz)(hz:0<sz)(hl:cells.length=(n+k)*sz)(hcap:n+k<=cap)(hm:cap<=maxLen):
  ∃ G',Step G G' B (w9 h cells e) w (w.drew.alloc (.cells ((olds++news).toArray++Builtin.zeroCells z.cells (cap-(n+k))) e)) /\
   V G' (.sl h.length 0 (n+k) sz 0 false) (.slice (some ⟨w.heap.size,0,none⟩) (n+k) cap):=by
 have hul:=hx.length
 have hcs:((olds++news).toArray++Builtin.zeroCells z.cells (cap-(n+k))).size=cap*sz:=by
  rw[Array.size_append,List.size_toArray,hul,hl,size_zeroCells,hzs,<- Nat.add_mul];congr 1;omega
 have hS:=Step.newRow (c:=(olds++news).toArray++Builtin.zeroCells z.cells (cap-(n+k))) (T:=e) (w':=w.drew.alloc (.cells ((olds++news).toArray++Builtin.zeroCells z.cells (cap-(n+k))) e)) hr hx
  (fun p hp=>by rw[Array.getElem?_append_left (by rw[List.size_toArray,hul];exact hp),List.getElem?_toArray])
  (heap_alloc_new w.drew _) (by simp) (fun b hb=>(xw.wZ w _).block b hb (by simp)) rfl rfl rfl
 refine⟨_,hS,?_⟩
 rw[<- hr.len]
 refine .sl (r:=⟨w.heap.size,0,cells.length,_,0⟩) (by rw[jz];rfl) (Nat.le_refl _) (by simp [hl]) hcap (by simp only[hcs];omega) (fun e=>by cases e) (fun _=>?_) hm hz
 simp only[hl,Nat.zero_add]
 exact Nat.mul_le_mul_right _ hcap
set_option maxHeartbeats 2000000 in
theorem kT{s s':AV}{sv v2:Value}{k:Nat}{xs:List AV}{us:List Value}{t t2 ty e:TypeId}{i:TypeInfo}{z:Value}(hr:HR G B h w)(hs:V G s sv)(he:app h e s i.size xs k=some (s',h'))
  (ht:P.underlying t=some (.slice e)) (hi:P.info? e=some i) (hz:i.zero=some z) (hzs:z.cells.size=i.size) (hby:i.bytes<=256) (S:Src P i.size t2 v2 k us w) (hx:VL G xs us):
  ∃ w' v' G',(Builtin.append_ #[t,t2] ty #[sv,v2]).run P w=.ok v' w'/\Step G G' B h' w w'/\V G' s' v':=by
 unfold app at he
 split at he
 ·rename_i hc
  obtain⟨hone,hlen,hsz⟩:=hc
  cases hs with
  |qj=>
   simp only at he
   split at he
   ·rename_i hk
    subst hk
    cases he
    obtain rfl:us=[]:=by have:=hx.length;rw[hlen,Nat.zero_mul] at this;exact List.eq_nil_of_length_eq_zero this
    exact⟨w,_,G,run_append_nothing w t t2 ty e i ht hi none 0 0 (Nat.le_refl _) v2 S,.refl hr,.qj⟩
   ·split at he
    ·rename_i hk hk2
     cases he
     have hrun:=run_append_grow_src (P:=P) w t t2 ty e i z ht hi hz none 0 0 [] (by simp [Builtin.firstCells]) v2 k us S (by omega) (by omega) (growslice_fits (by omega) (by simpa using fits hk2 hby))
     obtain⟨G',hS,hV⟩:=zcN (olds:=[]) (news:=us) (n:=0) (k:=k) (cap:=grownCap w (0+k) 0 e) (e:=e) hr (by simpa using hx) hzs hsz (by simpa using hlen) (grownCap_ge w _ 0 e) (grownCap_le_maxLen w _ 0 e (by simp only[maxLen];omega))
     refine⟨_,_,G',hrun,hS,?_⟩
     simpa using hV
    ·cases he
  | @sl loc off len sz ver cap clip r ha h1 h2 h3 h4 h5 h6 h7 h8=>
   simp only at he
   split at he
   ·rename_i hq
    obtain⟨rfl,hmax⟩:=hq
    split at he
    ·rename_i hk
     subst hk
     cases he
     obtain rfl:us=[]:=by have:=hx.length;rw[hlen,Nat.zero_mul] at this;exact List.eq_nil_of_length_eq_zero this
     exact⟨w,_,G,run_append_nothing w t t2 ty e i ht hi _ len cap h3 v2 S,.refl hr,.sl ha h1 h2 h3 h4 h5 h6 h7 h8⟩
    ·rename_i hk
     have hul:=hx.length
     have olds:∀ {ys:List AV},rd h loc off ver (off+len*i.size) (len*i.size)=some ys->∃ os,VL G ys os/\os.length=len*i.size/\(Builtin.firstCells i.size len (.slice (some ⟨r.b,off+r.sh-r.lo,none⟩) len cap)).run P w.drew=.ok os.toArray w.drew:=by
      intro ys hy
      obtain⟨os,o1,o2,o3⟩:=zD hr hy ha h1 h2
      exact⟨os,o1,o2,run_firstCells_some (P:=P) w.drew i.size len _ len cap os o2 (fun j u hu=>by rw[Addr.add_lit];exact o3 j u hu)⟩
     cases hclip:clip with
     |true=>
      rw[if_pos hclip] at he
      cases hrd:rd h loc off ver (off+len*i.size) (len*i.size) with
      |none=>rw[hrd] at he;cases he
      |some ys=>
       rw[hrd] at he
       cases he
       obtain⟨os,o1,o2,o3⟩:=olds hrd
       have hcl:=h5 hclip
       have hrun:=run_append_grow_src (P:=P) w t t2 ty e i z ht hi hz (some ⟨r.b,off+r.sh-r.lo,none⟩) len cap os o3 v2 k us S (by omega) (by omega) (growslice_fits (by omega) (fits hmax hby))
       obtain⟨G',hS,hV⟩:=zcN (olds:=os) (news:=us) (n:=len) (k:=k) (cap:=grownCap w (len+k) cap e) (e:=e) hr (o1.append hx) hzs hsz (by rw[List.length_append,<- o1.length,o2,hlen,Nat.add_mul]) (grownCap_ge w _ cap e) (grownCap_le_maxLen w _ cap e (by simp only[maxLen];omega))
       exact⟨_,_,G',hrun,hS,hV⟩
     |false=>
      rw[if_neg (by rw[hclip];simp)] at he
      obtain⟨b,vs,hb,hg,hv,hR⟩:=hr.get ha
      rw[hb] at he
      cases b with
      |row cells v minv frz ro tt=>
       cases ro with
       |true=>simp at he
       |false=>
        simp only at he
        split at he
        ·rename_i hver
         subst hver
         rcases hR with rfl|hR
         ·simp at hv
         have htip:=(hR.tip r hv).1
         have hlt:∀ (v:Nat) (r:Ver),vs[v]?=some r->r.b<w.heap.size:=fun v r hv=>hr.lt _ _ _ (Gh.kk hg hv)
         have hgl:loc<G.length:=(List.getElem?_eq_some_iff.1 hg).1
         have hcov:=h6 hclip
         obtain⟨c,T,fr,q1,qt,q2,q3,q4⟩:=hR.cell ver r hv hR.jm
         obtain⟨_,c1,T1,fr1,q5,q6,q7,q8⟩:=hR.tip r hv
         rw[q1] at q5;cases q5
         split at he
         ·rename_i htop
          cases he
          by_cases hroom:len+k<=cap
          ·
           have hmul:(len+k)*i.size<=cap*i.size:=Nat.mul_le_mul_right _ hroom
           rw[Nat.add_mul] at hmul
           have hs0:=hR.sh0 ver r hv
           obtain⟨w',hrun,hb',hsz',ho,htp,hu,hk'⟩:=run_storeCells_at (P:=P) r.b (off-r.lo+len*i.size) T fr us 0 c.toList w (by simpa using q1) (fun j hj hjc=>q7 j (by have:=hR.zdC;omega) (by simpa using hjc)) (by simp;omega) (hx.one hone)
           rw[show off-r.lo=off+r.sh-r.lo from by omega] at hrun
           have hS:=Step.upd (vs':=vs++[{ r with top:=cells.length+xs.length }]) (blk':=.row (cells++xs) (ver+1) minv frz false (if tt=some e then tt else none)) hr hb hg rfl rfl ⟨ver,r,hv,rfl⟩ (Nat.le_of_eq hsz'.symm) (fun k _=>hk' k) ho htp hu
            (fun v r' h=>by rw[List.getElem?_append_left (List.getElem?_eq_some_iff.1 h).1];exact h)
            (fun v r' h=>by
             rw[List.getElem?_append] at h
             split at h
             ·exact .inr ⟨v,r',h,rfl⟩
             ·refine .inr ⟨ver,r,hv,?_⟩
              cases hd:v-vs.length with
              |zero=>rw[hd] at h;simp at h;subst h;rfl
              |succ n=>rw[hd] at h;simp at h)
            (fun hG=>.inr (zpL zhq hR hv hx (by omega) hG q1 hb' (fun k _=>hk' k) hlt (by rw[show off-r.lo+len*i.size=cells.length-r.lo from by omega];simp)))
           refine⟨w',.slice (some ⟨r.b,off+r.sh-r.lo,none⟩) (len+k) cap,_,?_,hS,?_⟩
           ·have hf:=S.cells
            have hln:=S.len
            rcases S.kind with⟨e',hk2⟩|hk2 <;>
            (simp [Builtin.append_,run_underlying ht,run_underlying hk2,sizeOf,typeInfo,hi,hln,hroom,hf,Addr.add_lit]
             rw[hrun];rfl)
           ·have hnew:Gh.at (G.set loc (vs++[{ r with top:=cells.length+xs.length }])) loc (ver+1)=some { r with top:=cells.length+xs.length }:=by
             rw[zjm hgl,<- hR.len,List.getElem?_append_right (Nat.le_refl _)];simp
            exact .sl (r:={ r with top:=cells.length+xs.length }) hnew h1 (by show off+(len+k)*i.size<=cells.length+xs.length;rw[Nat.add_mul];omega) hroom h4 (fun e=>by cases e) (fun _=>by show cells.length+xs.length<=_;omega) h7 h8
          ·
           have hrd:rd h loc off ver (off+len*i.size) (len*i.size)=some ((cells.drop off).take (len*i.size)):=by
            unfold rd;rw[hb];simp only;rw[if_pos ⟨hR.jm,Nat.le_refl _⟩]
           obtain⟨os,o1,o2,o3⟩:=olds hrd
           have hdrop:(cells.drop off).take (len*i.size)=cells.drop off:=List.take_of_length_le (by simp;omega)
           rw[hdrop] at o1
           have hrun:=run_append_grow_src (P:=P) w t t2 ty e i z ht hi hz (some ⟨r.b,off+r.sh-r.lo,none⟩) len cap os o3 v2 k us S (by omega) (by omega) (growslice_fits (by omega) (fits hmax hby))
           have hge:=grownCap_ge w (len+k) cap e
           have hgm:=grownCap_le_maxLen w (len+k) cap e (by simp only[maxLen];omega)
           generalize hgc:grownCap w (len+k) cap e=gc at *
           have hcs:((os++us).toArray++Builtin.zeroCells z.cells (gc-(len+k))).size=gc*i.size:=by
            rw[Array.size_append,List.size_toArray,List.length_append,o2,hul,hlen,size_zeroCells,hzs,<- Nat.add_mul,<- Nat.add_mul];congr 1;omega
           have hS:=Step.upd (vs':=vs++[⟨w.heap.size,off,cells.length+xs.length,_,0⟩]) (w':=w.drew.alloc (.cells ((os++us).toArray++Builtin.zeroCells z.cells (gc-(len+k))) e)) (blk':=.row (cells++xs) (ver+1) minv frz false (if tt=some e then tt else none)) hr hb hg rfl rfl ⟨ver,r,hv,rfl⟩ (by simp)
            (fun k hk _=>(xw.wZ w _).block k hk (by simp)) rfl rfl rfl
            (fun v r' h=>by rw[List.getElem?_append_left (List.getElem?_eq_some_iff.1 h).1];exact h)
            (fun v r' h=>by
             rw[List.getElem?_append] at h
             split at h
             ·exact .inr ⟨v,r',h,rfl⟩
             ·left
              cases hd:v-vs.length with
              |zero=>rw[hd] at h;simp at h;subst h;exact⟨Nat.le_refl _,by simp⟩
              |succ n=>rw[hd] at h;simp at h)
            (fun hG=>.inr (zkB zhq hR znx hx (by omega) hG (Nat.le_refl _) (heap_alloc_new w.drew _) ⟨Nat.le_refl _,fun j _ q=>by omega⟩ rfl (fun k hk=>(xw.wZ w _).block k hk (by simp)) hlt o1
             (fun j u hj=>by rw[Array.getElem?_append_left (by rw[List.size_toArray];exact(List.getElem?_eq_some_iff.1 hj).1),List.getElem?_toArray];exact hj)))
           refine⟨_,_,_,hrun,hS,?_⟩
           have hnew:Gh.at (G.set loc (vs++[⟨w.heap.size,off,cells.length+xs.length,((os++us).toArray++Builtin.zeroCells z.cells (gc-(len+k))).size,0⟩])) loc (ver+1)=some ⟨w.heap.size,off,cells.length+xs.length,((os++us).toArray++Builtin.zeroCells z.cells (gc-(len+k))).size,0⟩:=by
            rw[zjm hgl,<- hR.len,List.getElem?_append_right (Nat.le_refl _)];simp
           have hmul:(len+k)*i.size<=gc*i.size:=Nat.mul_le_mul_right _ hge
           rw[Nat.add_mul] at hmul
           have:=V.sl (G:=G.set loc (vs++[⟨w.heap.size,off,cells.length+xs.length,((os++us).toArray++Builtin.zeroCells z.cells (gc-(len+k))).size,0⟩])) (loc:=loc) (off:=off) (len:=len+k) (sz:=i.size) (clip:=false) (cap:=gc) hnew (Nat.le_refl _) (by show off+(len+k)*i.size<=cells.length+xs.length;rw[Nat.add_mul];omega) hge (by show off-off+gc*i.size<=((os++us).toArray++Builtin.zeroCells z.cells (gc-(len+k))).size;rw[hcs];omega) (fun e=>by cases e) (fun _=>by show cells.length+xs.length<=_;omega) hgm h8
           simpa using this
         ·split at he
          ·rename_i hnt hin
           obtain⟨hin,hfz⟩:=hin
           cases he
           have hroom:len+k<=cap:=ziD hsz (by omega)
           have hs0:=hR.sh0 ver r hv
           obtain⟨w',hrun,hb',hsz',ho,htp,hu,hk'⟩:=run_storeCells_at (P:=P) r.b (off-r.lo+len*i.size) T fr us 0 c.toList w (by simpa using q1) (fun j hj hjc=>q7 j (by omega) (by simpa using hjc)) (by simp;omega) (hx.one hone)
           rw[show off-r.lo=off+r.sh-r.lo from by omega] at hrun
           have hS:=Step.upd (vs':=vs) (blk':=.row (cells.take (off+len*i.size)++xs++cells.drop (off+len*i.size+xs.length)) ver ver frz false tt) hr hb hg rfl rfl ⟨ver,r,hv,rfl⟩ (Nat.le_of_eq hsz'.symm) (fun k _=>hk' k) ho htp hu (fun _ _ h=>h) (fun v r' h=>.inr ⟨v,r',h,rfl⟩)
            (fun _=>.inr (by
             rw[qJ hg]
             refine zfS (off:=off+len*i.size) hR hv (by omega) hx (by omega) q1 hb' ?_
             rw[show off+len*i.size-r.lo=off-r.lo+len*i.size from by omega];simp))
           rw[qJ hg] at hS
           refine⟨w',.slice (some ⟨r.b,off+r.sh-r.lo,none⟩) (len+k) cap,G,?_,hS,.sl ha h1 (by rw[Nat.add_mul];omega) hroom h4 (fun e=>by cases e) (fun _=>hcov) h7 h8⟩
           have hf:=S.cells
           have hln:=S.len
           rcases S.kind with⟨e',hk2⟩|hk2 <;>
           (simp [Builtin.append_,run_underlying ht,run_underlying hk2,sizeOf,typeInfo,hi,hln,hroom,hf,Addr.add_lit]
            rw[hrun];rfl)
          ·cases he
        ·cases he
      |lay cells=>simp at he
      |map es=>simp at he
      |iter s pos=>simp at he
      |dead=>simp at he
      |loop env ps asg body st pd=>simp at he
      |dfr=>simp at he
      |zaU m=>simp at he
      |zbm k v it=>simp at he
      |mit l s=>simp at he
      |gone=>simp at he
   ·cases he
  | @sl0 loc off sz ver a0 clip r ha h1 h2 h6 h8=>
   simp only at he
   split at he
   ·rename_i hq
    obtain⟨rfl,hmax⟩:=hq
    rw[Nat.zero_add] at hmax
    split at he
    ·rename_i hk
     subst hk
     cases he
     obtain rfl:us=[]:=by have:=hx.length;rw[hlen,Nat.zero_mul] at this;exact List.eq_nil_of_length_eq_zero this
     exact⟨w,_,G,run_append_nothing w t t2 ty e i ht hi _ 0 0 (Nat.le_refl _) v2 S,.refl hr,.sl0 ha h1 h2 h6 h8⟩
    ·rename_i hk
     have hul:=hx.length
     have hrun:=run_append_grow_src (P:=P) w t t2 ty e i z ht hi hz (some a0) 0 0 [] (run_firstCells_some (P:=P) w.drew i.size 0 _ 0 0 [] (by simp) (fun j u hu=>by simp at hu)) v2 k us S (by omega) (by omega) (growslice_fits (by omega) (by simpa using fits hmax hby))
     cases hclip:clip with
     |true=>
      rw[if_pos hclip] at he
      cases hrd:rd h loc off ver (off+0*i.size) (0*i.size) with
      |none=>rw[hrd] at he;cases he
      |some ys=>
       rw[hrd] at he
       cases he
       obtain⟨os,o1,o2,_⟩:=zD hr hrd ha h1 (by omega)
       obtain rfl:os=[]:=List.eq_nil_of_length_eq_zero (by omega)
       cases o1
       obtain⟨G',hS,hV⟩:=zcN (olds:=[]) (news:=us) (n:=0) (k:=k) (cap:=grownCap w (0+k) 0 e) (e:=e) hr (by simpa using hx) hzs hsz (by simpa using hlen) (grownCap_ge w _ 0 e) (grownCap_le_maxLen w _ 0 e (by simp only[maxLen];omega))
       exact⟨_,_,G',hrun,hS,hV⟩
     |false=>
      rw[if_neg (by rw[hclip];simp)] at he
      obtain⟨b,vs,hb,hg,hv,hR⟩:=hr.get ha
      rw[hb] at he
      have hcov:=h6 hclip
      cases b with
      |row cells v minv frz ro tt=>
       cases ro with
       |true=>simp at he
       |false=>
        simp only at he
        split at he
        ·rename_i hver
         subst hver
         rcases hR with rfl|hR
         ·simp at hv
         have htip:=(hR.tip r hv).1
         have hlt:∀ (v:Nat) (r:Ver),vs[v]?=some r->r.b<w.heap.size:=fun v r hv=>hr.lt _ _ _ (Gh.kk hg hv)
         have hgl:loc<G.length:=(List.getElem?_eq_some_iff.1 hg).1
         split at he
         ·rename_i htop
          cases he
          have hge:=grownCap_ge w (0+k) 0 e
          have hgm:=grownCap_le_maxLen w (0+k) 0 e (by simp only[maxLen];omega)
          generalize hgc:grownCap w (0+k) 0 e=gc at *
          have hcs:(([]++us).toArray++Builtin.zeroCells z.cells (gc-(0+k))).size=gc*i.size:=by
           rw[Array.size_append,List.size_toArray,List.nil_append,hul,hlen,size_zeroCells,hzs,<- Nat.add_mul];congr 1;omega
          have hS:=Step.upd (vs':=vs++[⟨w.heap.size,off,cells.length+xs.length,_,0⟩]) (w':=w.drew.alloc (.cells (([]++us).toArray++Builtin.zeroCells z.cells (gc-(0+k))) e)) (blk':=.row (cells++xs) (ver+1) minv frz false (if tt=some e then tt else none)) hr hb hg rfl rfl ⟨ver,r,hv,rfl⟩ (by simp)
           (fun k hk _=>(xw.wZ w _).block k hk (by simp)) rfl rfl rfl
           (fun v r' h=>by rw[List.getElem?_append_left (List.getElem?_eq_some_iff.1 h).1];exact h)
           (fun v r' h=>by
            rw[List.getElem?_append] at h
            split at h
            ·exact .inr ⟨v,r',h,rfl⟩
            ·left
             cases hd:v-vs.length with
             |zero=>rw[hd] at h;simp at h;subst h;exact⟨Nat.le_refl _,by simp⟩
             |succ n=>rw[hd] at h;simp at h)
           (fun hG=>.inr (zkB (off:=off) zhq hR znx hx (by omega) hG (Nat.le_refl _) (heap_alloc_new w.drew _) ⟨Nat.le_refl _,fun j _ q=>by omega⟩ rfl (fun k hk=>(xw.wZ w _).block k hk (by simp)) hlt (olds:=[]) (by rw[List.drop_of_length_le (by omega)];exact .nil)
            (fun j u hj=>by rw[Array.getElem?_append_left (by rw[List.size_toArray];exact(List.getElem?_eq_some_iff.1 hj).1),List.getElem?_toArray];exact hj)))
          refine⟨_,_,_,hrun,hS,?_⟩
          have hnew:Gh.at (G.set loc (vs++[⟨w.heap.size,off,cells.length+xs.length,(([]++us).toArray++Builtin.zeroCells z.cells (gc-(0+k))).size,0⟩])) loc (ver+1)=some ⟨w.heap.size,off,cells.length+xs.length,(([]++us).toArray++Builtin.zeroCells z.cells (gc-(0+k))).size,0⟩:=by
           rw[zjm hgl,<- hR.len,List.getElem?_append_right (Nat.le_refl _)];simp
          have hmul:(0+k)*i.size<=gc*i.size:=Nat.mul_le_mul_right _ hge
          have:=V.sl (G:=G.set loc (vs++[⟨w.heap.size,off,cells.length+xs.length,(([]++us).toArray++Builtin.zeroCells z.cells (gc-(0+k))).size,0⟩])) (loc:=loc) (off:=off) (len:=0+k) (sz:=i.size) (clip:=false) (cap:=gc) hnew (Nat.le_refl _) (by show off+(0+k)*i.size<=cells.length+xs.length;rw[Nat.zero_add];omega) hge (by show off-off+gc*i.size<=(([]++us).toArray++Builtin.zeroCells z.cells (gc-(0+k))).size;rw[hcs];omega) (fun e=>by cases e) (fun _=>by show cells.length+xs.length<=_;rw[Nat.zero_add] at hmul;omega) hgm h8
          simpa using this
         ·split at he
          ·rename_i hnt hin
           exact absurd (by omega) hnt
          ·cases he
        ·cases he
      |lay cells=>simp at he
      |map es=>simp at he
      |iter s pos=>simp at he
      |dead=>simp at he
      |loop env ps asg body st pd=>simp at he
      |dfr=>simp at he
      |zaU m=>simp at he
      |zbm k v it=>simp at he
      |mit l s=>simp at he
      |gone=>simp at he
   ·cases he
  |_=>simp at he
 ·cases he
end
def zcs:Value->Option AV
 |.bool b=>some (.bool b)
 |.int k n=>some (.int k n)
 |.string s=>some (.str s.data.toList)
 |.pointer none=>some .zbf
 |.slice none 0 0=>some .qj
 |.map none=>some .zcd
 |.nilFunc=>some .zeX
 |.nilIface=>some .xQ
 |.func (.func f) first cap=>if first.isEmpty=true/\cap.isEmpty=true then some (.fn f [] []) else none
 |.tuple cs=>if cs.isEmpty=true then some (.tup []) else none
 |_=>none
def za1:List Value->Option (List AV)
 | []=>some []
 |v::l=>match zcs v,za1 l with
  |some x,some xs=>some (x::xs)
  |_,_=>none
def zaZ:Value->Option AV
 |.agg cs=>(za1 cs.toList).map .agg
 |v=>zcs v
def ofConst:Value->Option AV
 |.iface t v=>(zaZ v).map (.ifc t)
 |v=>zaZ v
def mev(P:Program)(env:Arr AV)(h:za):Operand->Option AV
 |.tmp t=>env[t]?
 |.const v=>ofConst v
 |.global g=>if g<P.globals.size then match h[g]? with
   |some (.row cells 0 _ _ _ _)=>some (.ptr g 0 0 cells.length)
   |some (.lay cells)=>some (.ptr g 0 0 cells.length)
   |some _=>some (.ptr g 0 0 0)
   |none=>none
  else none
 |.func f=>some (.fn f [] [])
def zdp(e:Operand->Option AV):List Operand->Option (List AV)
 | []=>some []
 |x::l=>match e x,zdp e l with
  |some v,some vs=>some (v::vs)
  |_,_=>none
def wI(P:Program)(t:TypeId):Option Nat:=match P.info? t with|some i=>some i.size|none=>none
def zeV(P:Program)(t:TypeId):Option Bool:=match P.underlying t with
 |some (.struct _)|some (.array _ _)=>some true
 |some _=>some false
 |none=>none
def zeroOf(P:Program)(t:TypeId):Option AV:=match P.info? t with
 |some i=>match i.zero with|some z=>ofConst z|none=>none
 |none=>none
def zlD(op:BinOp)(k:IntKind)(a b:Int):Option AV:=
 match op with
 |.add=>some (.int k (k.wrap (a+b)))
 |.sub=>some (.int k (k.wrap (a-b)))
 |.mul=>some (.int k (k.wrap (a*b)))
 |.quo=>if b=0 then none else some (.int k (k.wrap (a.tdiv b)))
 |.rem=>if b=0 then none else some (.int k (a.tmod b))
 |.and=>some (.int k (zb8 .and k a b))
 |.or=>some (.int k (zb8 .or k a b))
 |.xor=>some (.int k (zb8 .xor k a b))
 |.andNot=>some (.int k (zb8 .andNot k a b))
 |.lss=>some (.bool (decide (a<b)))
 |.leq=>some (.bool (decide (a<=b)))
 |.gtr=>some (.bool (decide (b<a)))
 |.geq=>some (.bool (decide (b<=a)))
 |.eql=>some (.bool (a==b))
 |.neq=>some (.bool (a != b))
 |_=>none
def xV(op:BinOp)(k:IntKind)(a b:Int):Option AV:=
 if b<0 then none else match op with
 |.shl=>some (.int k (k.wrap (a*2 ^ (min b.toNat k.bits))))
 |.shr=>some (.int k (a.fdiv (2 ^ (min b.toNat k.bits))))
 |_=>none
def zqv(op:BinOp)(a b:List UInt8):Option AV:=
 match op with
 |.add=>if a.length+b.length<4611686018427387904 then some (.str (a++b)) else none
 |.eql=>some (.bool (a==b))
 |.neq=>some (.bool (a != b))
 |.lss=>some (.bool (Op.bytesLess a b))
 |.leq=>some (.bool (Op.bytesLess a b||a==b))
 |.gtr=>some (.bool !(Op.bytesLess a b||a==b))
 |.geq=>some (.bool !(Op.bytesLess a b))
 |_=>none
def zaW(P:Program)(t:TypeId)(cs:List AV)(off:Nat):Option AV:=
 match zeV P t,wI P t with
 |some true,some n=>some (.agg ((cs.drop off).take n))
 |some false,_=>cs[off]?
 |_,_=>none
def wide(P:Program)(t:TypeId):Bool:=match wI P t with
 |some (_+1)=>true
 |_=>false
def zoX(f:Field->Option Bool):List Field->Option Bool
 | []=>some true
 |fd::l=>if fd.name ≠ "_" then match f fd with
   |some true=>zoX f l
   |some false=>some false
   |none=>none
  else zoX f l
def meq(P:Program):Nat->TypeId->AV->AV->Option Bool
 |0,_,_,_=>none
 |d+1,t,x,y=>
  match P.underlying t,x,y with
  |some .bool,.bool a,.bool b=>some (a==b)
  |some (.int _),.int k a,.int k' b=>if k=k' then some (a==b) else none
  |some .string,.str a,.str b=>some (a==b)
  |some (.pointer _),.zbf,.zbf=>some true
  |some (.pointer _),.zbf,.ptr ..=>some false
  |some (.pointer _),.ptr ..,.zbf=>some false
  |some (.pointer e),.ptr l o v _,.ptr l' o' v' _=>if l=l'/\v=v'/\wide P e=true then some (o==o') else none
  |some (.interface _),.xQ,.xQ=>some true
  |some (.interface _),.xQ,.ifc ..=>some false
  |some (.interface _),.ifc ..,.xQ=>some false
  |some (.interface _),.xQ,.opq=>some false
  |some (.interface _),.opq,.xQ=>some false
  |some (.struct fs),.agg xs,.agg ys=>if P.stoodInHeld t then none else zoX (fun f=>match zaW P f.type xs f.offset,zaW P f.type ys f.offset with|some a,some b=>meq P d f.type a b|_,_=>none) fs.toList
  |some (.slice _),.qj,.qj=>some true
  |some (.slice _),.qj,.sl ..=>some false
  |some (.slice _),.sl ..,.qj=>some false
  |some (.map _ _),.zcd,.zcd=>some true
  |some (.map _ _),.zcd,.map _=>some false
  |some (.map _ _),.map _,.zcd=>some false
  |some (.func _ _ _),.zeX,.zeX=>some true
  |some (.func _ _ _),.zeX,.fn ..=>some false
  |some (.func _ _ _),.fn ..,.zeX=>some false
  |_,_,_=>none
def isC:Operand->Bool
 |.const _=>true
 |_=>false
def zee(P:Program)(t:TypeId)(x y:Operand):AV->AV->Bool
 |.xQ,.xQ=>isC x||isC y
 |.agg _,.agg _=>!(P.eqGuardType P.depth t)
 |_,_=>true
def zak(P:Program)(op:BinOp)(t:TypeId)(x y:Operand)(a b:AV):Bool:=
 match op with
 |.eql|.neq=>zee P t x y a b
 |_=>true
def zer(P:Program)(op:BinOp)(t:TypeId)(a b:AV):Option AV:=
 match a,b with
 |.int k a,.int k' b=>match op with
  |.shl=>xV .shl k a b
  |.shr=>xV .shr k a b
  |op=>if k=k' then zlD op k a b else none
 |.str a,.str b=>zqv op a b
 |.any,_=>none
 |_,.any=>none
 |.int .i64 a,.iv lo hi=>match op with
  |.leq=>if a<=lo then some (.bool true) else if hi<a then some (.bool false) else none
  |_=>none
 |.iv lo hi,.int .i64 n=>match op with
  |.sub=>if 0<=n/\n<=4611686018427387904/\0<=lo/\hi<=9223372036854775807 then some (.iv (lo-n) (hi-n)) else none
  |.lss=>if hi<n then some (.bool true) else if n<=lo then some (.bool false) else none
  |.gtr=>if n<lo then some (.bool true) else if hi<=n then some (.bool false) else none
  |_=>none
 |.iv _ _,_=>none
 |_,.iv _ _=>none
 |a,b=>match op with
  |.eql=>match meq P 8 t a b with|some r=>some (.bool r)|none=>none
  |.neq=>match meq P 8 t a b with|some r=>some (.bool !r)|none=>none
  |_=>none
def toByte:AV->Option UInt8
 |.int .u8 n=>if 0<=n/\n<256 then some (UInt8.ofNat n.toNat) else none
 |_=>none
def wH:List AV->Option (List UInt8)
 | []=>some []
 |x::l=>match toByte x,wH l with
  |some b,some bs=>some (b::bs)
  |_,_=>none
def qq(c:UInt8):AV:=.int .u8 (c.toNat:Int)
def wA(P:Program)(s d:TypeId)(x:AV)(h:za):Option (AV×za):=
 match P.underlying s,P.underlying d,x with
 |some _,some (.int k),.int _ n=>some (.int k (k.wrap n),h)
 |some _,some .string,.str l=>some (.str l,h)
 |some .string,some (.slice e),.str l=>match P.underlying e with
  |some (.int .u8)=>if l.length<549755813888 then some (.sl h.length 0 l.length 1 0 false,h++[Blk.row (l.map qq) 0 0 0 false none]) else none
  |_=>none
 |some (.slice e),some .string,.qj=>match P.underlying e with
  |some (.int .u8)=>some (.str [],h)
  |_=>none
 |some (.slice e),some .string,.sl loc off len 1 ver _=>match P.underlying e with
  |some (.int .u8)=>match rd h loc off ver (off+len) len with
   |some cs=>match wH cs with|some l=>some (.str l,h)|none=>none
   |none=>none
  |_=>none
 |some (.slice _),some (.slice e),.sl loc off len sz ver clip=>if s=d then match P.underlying e,h[loc]? with
  |some (.int .u8),some (.row cells v minv 0 false _)=>if minv<=ver/\0<len then some (.sl loc off len sz ver clip,h.set loc (.row cells v minv 0 false none)) else none
  |_,_=>none
  else none
 |some (.pointer t),some .unsafePointer,.ptr loc off ver lim=>match h[loc]? with
  |some (.row _ _ minv _ _ _)=>if wide P t=true/\off<lim/\minv<=ver then some (.ptr loc off ver lim,h) else none
  |_=>none
 |some .unsafePointer,some (.pointer u),.ptr loc off ver lim=>match h[loc]? with
  |some (.row _ _ minv _ _ (some T))=>if T=u/\off=0/\minv<=ver/\0<P.cellsOf u/\P.cellsOf u<=lim then some (.ptr loc off ver lim,h) else none
  |_=>none
 |_,_,_=>none
def zbr(place:Nat->Option (Nat×Nat))(cells:List AV):List (Nat×AV)->Option (List AV)
 | []=>some cells
 |(i,v)::rest=>match place i with
  |none=>none
  |some (off,size)=>if v.cells.length=size/\off+size<=cells.length then zbr place (cells.take off++v.cells++cells.drop (off+size)) rest else none
def qH(e:Operand->Option AV):List (Nat×Operand)->Option (List (Nat×AV))
 | []=>some []
 |(i,x)::l=>match e x,qH e l with
  |some v,some vs=>some ((i,v)::vs)
  |_,_=>none
def zcX(P:Program):List Field->Option (List (Nat×Nat))
 | []=>some []
 |f::l=>match wI P f.type,zcX P l with
  |some n,some ps=>some ((f.offset,n)::ps)
  |_,_=>none
def zhP(P:Program)(t:TypeId)(parts:List (Nat×AV)):Option AV:=
 match zeroOf P t,P.underlying t with
 |some z,some (.struct fs)=>match zcX P fs.toList with
  |some ps=>match zbr (ps[·]?) z.cells parts with|some cs=>some (.agg cs)|none=>none
  |none=>none
 |some z,some (.array _ e)=>match wI P e with
  |some n=>match zbr (fun i=>some (i*n,n)) z.cells parts with|some cs=>some (.agg cs)|none=>none
  |none=>none
 |_,_=>none
def zY(z:List AV)(n:Nat):List AV:=(List.range n).map fun i=>z.getD (i % z.length) .undef
def jk(P:Program)(t:TypeId)(len:Nat)(parts:List (Nat×AV))(h:za):Option (AV×za):=
 match P.underlying t with
 |some (.slice e)=>match wI P e,zeroOf P e with
  |some (n+1),some z=>if len*(n+1)<=2 ^ 24/\z.cells.length=n+1 then
    match zbr (fun i=>some (i*(n+1),n+1)) (zY z.cells (len*(n+1))) parts with
    |some cs=>some (.sl h.length 0 len (n+1) 0 false,w9 h cs e)
    |none=>none
   else none
  |_,_=>none
 |_=>none
def zgP(l c:Nat):Nat:=if 0<l/\l<c/\c<=64 then c else l
theorem zl4(l c:Nat):l<=zgP l c:=by unfold zgP;split<;>omega
theorem zl5{l c:Nat}(h:l<=c):zgP l c<=c:=by unfold zgP;split<;>omega
def zbt(P:Program)(t:TypeId)(l c:AV)(h:za):Option (AV×za):=
 match P.underlying t,l,c with
 |some (.slice e),.int _ l,.int _ c=>match P.info? e,zeroOf P e with
  |some i,some z=>if 0<=l/\l<=c/\c<549755813888/\i.bytes<=256/\0<i.size/\z.cells.length=i.size then
    some (.sl h.length 0 l.toNat i.size 0 false,w9 h (zY z.cells (zgP l.toNat c.toNat*i.size)) e) else none
  |_,_=>none
 |_,_,_=>none
def jX(e:Operand->Option AV):Option Operand->Option (Option Int)
 |none=>some none
 |some x=>match e x with
  |some (.int _ n)=>some (some n)
  |_=>none
def qi(P:Program)(t:TypeId)(x:AV)(lo hi mx:Option Int)(h:za):Option AV:=
 match P.underlying t,x with
 |some .string,.str l=>
  let a:=lo.getD 0;let b:=hi.getD l.length
  if mx.isNone=true/\0<=a/\a<=b/\b<=l.length then some (.str ((l.drop a.toNat).take (b.toNat-a.toNat))) else none
 |some (.slice e),.qj=>
  if lo.getD 0=0/\hi.getD 0=0/\mx.getD 0=0/\(mx.isSome=true->hi.isSome=true)/\(wI P e).isSome=true then some .qj else none
 |some (.slice e),.sl loc off len sz ver clip=>match wI P e with
  |some n=>
   let a:=lo.getD 0;let b:=hi.getD len
   if n=sz/\0<=a/\a<=b/\b<=len then
    match mx with
    |none=>if clip=true/\b≠len then none else some (.sl loc (off+a.toNat*sz) (b.toNat-a.toNat) sz ver clip)
    |some m=>if m=b/\hi.isSome=true then some (.sl loc (off+a.toNat*sz) (b.toNat-a.toNat) sz ver true) else none
   else none
  |none=>none
 |some (.array n e),.ptr loc off ver lim=>match wI P e,h[loc]? with
  |some (z+1),some (.row cells 0 _ _ false _)=>
   let a:=lo.getD 0;let b:=hi.getD n
   if mx.isNone=true/\0<=a/\a<=b/\b<=n/\ver=0/\n<549755813888/\off+n*(z+1)=cells.length/\lim=cells.length then some (.sl loc (off+a.toNat*(z+1)) (b.toNat-a.toNat) (z+1) 0 false) else none
  |_,_=>none
 |_,_=>none
def kC(P:Program)(t:TypeId)(x:AV)(lo hi mx:Option Int)(h:za):Option AV:=
 match P.underlying t,x,hi,mx with
 |some (.slice e),.sl loc off len sz ver false,some b,none=>match wI P e,h[loc]? with
  |some n,some (.row cells v _ _ _ _)=>
   let a:=lo.getD 0
   if n=sz/\0<=a/\a<=b/\(len:Int)<b/\ver=v/\off+b.toNat*sz<=cells.length/\0<len then some (.sl loc (off+a.toNat*sz) (b.toNat-a.toNat) sz ver false) else none
  |_,_=>none
 |_,_,_,_=>none
def zaw(P:Program)(t:TypeId)(x:AV)(lo hi mx:Option Int)(h:za):Option AV:=match qi P t x lo hi mx h with
 |some y=>some y
 |none=>kC P t x lo hi mx h
theorem zbw{P:Program}{t:TypeId}{x y:AV}{lo hi mx:Option Int}{h:za}(q:qi P t x lo hi mx h=some y):zaw P t x lo hi mx h=some y:=by unfold zaw;rw[q]
def w8(P:Program)(s:TypeId)(x:AV)(f:Nat):Option AV:=
 match P.underlying s,x with
 |some (.struct fs),.ptr loc off ver lim=>match fs[f]? with
  |some fd=>match wI P fd.type with
   |some (_+1)=>some (.ptr loc (off+fd.offset) ver lim)
   |_=>none
  |none=>none
 |_,_=>none
def zR(P:Program)(t:TypeId)(x i:AV):Option AV:=
 match P.underlying t,x,i with
 |some (.array len e),.ptr loc off ver lim,.int _ n=>match wI P e with
  |some z=>if 0<=n/\n<len then some (.ptr loc (off+n.toNat*z) ver lim) else none
  |none=>none
 |some (.slice e),.sl loc off len sz ver _,.int _ n=>match wI P e with
  |some z=>if z=sz/\0<=n/\n<len then some (.ptr loc (off+n.toNat*sz) ver (off+len*sz)) else none
  |none=>none
 |_,_,_=>none
def zdM(P:Program)(t:TypeId)(x i:AV):Option AV:=
 match P.underlying t,x,i with
 |some .string,.str l,.int _ n=>if 0<=n then match l[n.toNat]? with|some b=>some (qq b)|none=>none else none
 |some (.array len e),.agg cs,.int _ n=>match wI P e with
  |some z=>if 0<=n/\n<len then zaW P e cs (n.toNat*z) else none
  |none=>none
 |_,_,_=>none
def zfD:TypeDesc->AV->AV->Option Bool
 |.int _,.int k a,.int k' b=>if k=k' then some (a==b) else none
 |.string,.str a,.str b=>some (a==b)
 |.bool,.bool a,.bool b=>some (a==b)
 |_,_,_=>none
def zfj:TypeDesc->AV->Bool
 |.bool,.bool _=>true
 |.int k,.int k' _=>k'==k
 |.string,.str _=>true
 |_,_=>false
def kA(d:TypeDesc)(k:AV):List (AV×AV)->Nat->Option (Option (Nat×AV))
 | [],_=>some none
 |p::l,i=>match zfD d k p.1 with
  |some true=>some (some (i,p.2))
  |some false=>kA d k l (i+1)
  |none=>none
def zM(m:AV)(h:za):Option (List (AV×AV)):=match m with
 |.zcd=>some []
 |.map loc=>match h[loc]? with
  |some (.map es)=>some es
  |_=>none
 |_=>none
def qN(P:Program)(t:TypeId)(m k:AV)(ok:Bool)(h:za):Option AV:=
 match P.underlying t with
 |some (.map kt et)=>match P.underlying kt,zeroOf P et with
  |some d,some z=>
   match zM m h with
   |some es=>if zfj d k=true then match kA d k es 0 with
    |some (some (_,v))=>some (if ok then .tup [v,.bool true] else v)
    |some none=>some (if ok then .tup [z,.bool false] else z)
    |none=>none
    else none
   |none=>none
  |_,_=>none
 |_=>none
def zlE(P:Program)(t:TypeId)(m k v:AV)(h:za):Option za:=
 match P.underlying t,m with
 |some (.map kt _),.map loc=>match P.underlying kt,h[loc]? with
  |some d,some (.map es)=>if zfj d k=true then match kA d k es 0 with
   |some (some (i,_))=>some (h.set loc (.map (es.set i (k,v))))
   |some none=>some (h.set loc (.map (es++[(k,v)])))
   |none=>none
   else none
  |_,_=>none
 |_,_=>none
def zbp(P:Program)(t:TypeId)(m k:AV)(h:za):Option za:=
 match P.underlying t,m with
 |some (.map kt _),.map loc=>match P.underlying kt,h[loc]? with
  |some d,some (.map es)=>if zfj d k=true then match kA d k es 0 with
   |some (some (i,_))=>some (h.set loc (.map (es.eraseIdx i)))
   |some none=>some (h.set loc (.map es))
   |none=>none
   else none
  |_,_=>none
 |_,_=>none
inductive Cal where
 |f (f:FuncId)
 |y (loc:Nat)
inductive Rs where
 |val (v:AV) (h:za)
 |unit (h:za)
 |call (f:Cal) (args:List AV)
 |dfr (f:FuncId) (args cap:List AV)
def rv(h:za):Option AV->Option Rs
 |some v=>some (.val v h)
 |none=>none
def rvh:Option (AV×za)->Option Rs
 |some (v,h)=>some (.val v h)
 |none=>none
def ru:Option za->Option Rs
 |some h=>some (.unit h)
 |none=>none
def zkf(P:Program)(t:TypeId)(x:AV)(h:za):Option AV:=
 match P.underlying t,x with
 |some .string,.str l=>some (.int .i64 l.length)
 |some (.array n _),_=>some (.int .i64 n)
 |some (.slice _),.qj=>some (.int .i64 0)
 |some (.slice _),.sl _ _ len _ _ _=>some (.int .i64 len)
 |some (.map _ _),.zcd=>some (.int .i64 0)
 |some (.map _ _),.map loc=>match h[loc]? with|some (.map es)=>some (.int .i64 es.length)|_=>none
 |_,_=>none
def zbn(P:Program)(t t2:TypeId)(s x:AV)(h:za):Option (AV×za):=
 match P.underlying t with
 |some (.slice e)=>match P.info? e with
  |some i=>match i.zero with
   |some z=>if z.cells.size=i.size/\i.bytes<=256 then
     match P.underlying t2,x with
     |some (.slice _),.qj=>app h e s i.size [] 0
     |some (.slice _),.sl loc off len sz ver _=>if sz=i.size then match rd h loc off ver (off+len*sz) (len*sz) with
       |some xs=>app h e s i.size xs len
       |none=>none
      else none
     |some .string,.str l=>if i.size=1 then app h e s 1 (l.map qq) l.length else none
     |_,_=>none
    else none
   |none=>none
  |none=>none
 |_=>none
def zmb(P:Program)(t2:TypeId)(z:Nat)(x:AV)(h:za):Option (List AV×Nat):=
 match P.underlying t2,x with
 |some (.slice _),.qj=>some ([],0)
 |some (.slice _),.sl loc off len sz ver _=>if sz=z then match rd h loc off ver (off+len*sz) (len*sz) with|some xs=>some (xs,len)|none=>none else none
 |some .string,.str l=>if z=1 then some (l.map qq,l.length) else none
 |_,_=>none
def zfs(P:Program)(t t2:TypeId)(d x:AV)(h:za):Option (AV×za):=
 match P.underlying t with
 |some (.slice e)=>match wI P e with
  |some z=>
   match d,zmb P t2 z x h with
   |.qj,some (_,_)=>some (.int .i64 0,h)
   |.sl loc off len sz ver _,some (xs,n)=>if sz=z then
     let k:=min n len
     if k=0 then some (.int .i64 0,h) else match wr h loc off ver (off+len*sz) (xs.take (k*z)) with
     |some h'=>some (.int .i64 k,h')
     |none=>none
    else none
   |_,_=>none
  |none=>none
 |_=>none
def mclear(P:Program)(t:TypeId)(x:AV)(h:za):Option za:=
 match P.underlying t,x with
 |some (.slice _),.qj=>some h
 |some (.slice e),.sl loc off len sz ver _=>if len=0 then some h else match zeroOf P e with
  |some z=>if z.cells.length=sz then wr h loc off ver (off+len*sz) (zY z.cells (len*sz)) else none
  |none=>none
 |some (.map _ _),.zcd=>some h
 |some (.map _ _),.map loc=>match h[loc]? with|some (.map _)=>some (h.set loc (.map []))|_=>none
 |_,_=>none
def qh(P:Program)(b:Builtin)(ts:List TypeId)(args:List AV)(h:za):Option Rs:=
 match b,ts,args with
 |.len,t::_,x::_=>rv h (zkf P t x h)
 |.append,[t,t2],[s,x]=>rvh (zbn P t t2 s x h)
 |.copy,[t,t2],[d,x]=>rvh (zfs P t t2 d x h)
 |.max,_,[.int k a,.int _ b]=>some (.val (.int k (if b > a then b else a)) h)
 |.min,_,[.int k a,.int _ b]=>some (.val (.int k (if b<a then b else a)) h)
 |.cap,t::_,[x]=>match P.underlying t,x with
  |some (.slice _),.qj=>some (.val (.int .i64 0) h)
  |some (.slice _),.sl _ _ len _ _ true=>some (.val (.int .i64 len) h)
  |some (.slice _),.sl loc off len sz ver false=>match h[loc]? with
   |some (.row cells v _ _ _ _)=>if ver=v/\0<len then some (.val (.iv (((cells.length-off)/sz:Nat):Int) 9223372036854775807) h) else none
   |_=>none
  |_,_=>none
 |.unsafeSliceData,_,[x]=>match x with
  |.qj=>some (.val .zbf h)
  |.sl loc off len sz ver _=>if 0<len then some (.val (.ptr loc off ver (off+len*sz)) h) else none
  |_=>none
 |.unsafeString,pt::_,[x,.int .i64 n]=>match P.underlying pt,x with
  |some (.pointer _),.zbf=>if n=0 then some (.val (.str []) h) else none
  |some (.pointer u),.ptr loc off ver lim=>if n=0 then some (.val (.str []) h) else match h[loc]? with
   |some (.row cells v minv frz false (some T))=>if T=u/\off=0/\P.cellsOf u=1/\0<n/\n.toNat<=140737488355327/\ver=v then match rd h loc off ver lim n.toNat with
     |some cs=>match wH cs with
      |some l=>some (.val (.str l) (h.set loc (.row cells v minv (max frz n.toNat) false (some T))))
      |none=>none
     |none=>none
    else none
   |_=>none
  |_,_=>none
 |.clear,[t],[x]=>match mclear P t x h with|some h'=>some (.val (.tup []) h')|none=>none
 |.delete,[t,_],[m,k]=>match zbp P t m k h with|some h'=>some (.val (.tup []) h')|none=>none
 |_,_,_=>none
def mop(P:Program)(e:Operand->Option AV)(h:za)(op:Op):Option Rs:=
 match op with
 |.move x|.assign x=>rv h (e x)
 |.pick c a b=>match e c with
  |some (.bool true)=>rv h (e a)
  |some (.bool false)=>rv h (e b)
  |_=>none
 |.alloc t=>match zeroOf P t with
  |some z=>some (.val (.ptr h.length 0 0 z.cells.length) (w9 h z.cells t))
  |none=>none
 |.box t x=>match e x with
  |some v=>some (.val (.ptr h.length 0 0 v.cells.length) (w9 h v.cells t))
  |none=>none
 |.build t parts=>match qH e parts.toList with
  |some ps=>rv h (zhP P t ps)
  |none=>none
 |.buildSlice t len parts=>match qH e parts.toList with
  |some ps=>rvh (jk P t len ps h)
  |none=>none
 |.load t x=>match e x,zeV P t,wI P t with
  |some (.ptr loc off ver lim),some true,some n=>match rd h loc off ver lim n with|some cs=>some (.val (.agg cs) h)|none=>none
  |some (.ptr loc off ver lim),some false,_=>match rd h loc off ver lim 1 with|some [v]=>some (.val v h)|_=>none
  |_,_,_=>none
 |.store t a x=>match e a,e x,wI P t with
  |some (.ptr loc off ver lim),some v,some n=>if v.cells.length=n then ru (wr h loc off ver lim v.cells) else none
  |_,_,_=>none
 |.nilCheck x=>match e x with
  |some .zbf|some .xQ|some .zeX=>none
  |some v=>some (.val v h)
  |none=>none
 |.binOp op t x y _=>match e x,e y with
  |some a,some b=>if zak P op t x y a b=true then rv h (zer P op t a b) else none
  |_,_=>none
 |.unOp u _ x=>match u,e x with
  |.neg,some (.int k a)=>some (.val (.int k (k.wrap (0-a))) h)
  |.not,some (.bool b)=>some (.val (.bool !b) h)
  |.xor,some (.int k a)=>some (.val (.int k (zb8 .xor k (if k.signed then -1 else k.max) a)) h)
  |_,_=>none
 |.convert s d x=>match e x with
  |some v=>rvh (wA P s d v h)
  |none=>none
 |.makeInterface t x=>match P.underlying t,e x with
  |some (.interface _),_=>none
  |some _,some v=>some (.val (.ifc t v) h)
  |_,_=>none
 |.makeFunc (.func f) first cap=>match zdp e first.toList,zdp e cap.toList with
  |some a,some b=>some (.val (.fn f a b) h)
  |_,_=>none
 |.makeMap _ none=>some (.val (.map h.length) (h++[Blk.map []]))
 |.makeSlice t l c=>match e l,e c with
  |some a,some b=>rvh (zbt P t a b h)
  |_,_=>none
 |.slice t x lo hi mx=>match e x,jX e lo,jX e hi,jX e mx with
  |some v,some a,some b,some c=>rv h (zaw P t v a b c h)
  |_,_,_,_=>none
 |.fieldAddr s x f=>match e x with
  |some v=>rv h (w8 P s v f)
  |none=>none
 |.field t x f=>match P.underlying t,e x with
  |some (.struct fs),some (.agg cs)=>match fs[f]? with
   |some fd=>rv h (zaW P fd.type cs fd.offset)
   |none=>none
  |_,_=>none
 |.indexAddr t x i=>match e x,e i with
  |some a,some b=>rv h (zR P t a b)
  |_,_=>none
 |.index t x i=>match e x,e i with
  |some a,some b=>rv h (zdM P t a b)
  |_,_=>none
 |.lookup t m k ok=>match e m,e k with
  |some a,some b=>rv h (qN P t a b ok h)
  |_,_=>none
 |.mapUpdate t m k v|.insert t m k v=>match e m,e k,e v with
  |some a,some b,some c=>ru (zlE P t a b c h)
  |_,_,_=>none
 |.typeAssert x _ t true=>match P.underlying t,e x with
  |some (.interface _),_=>none
  |some _,some (.ifc t' v)=>if t'=t then some (.val (.tup [v,.bool true]) h) else match zeroOf P t with
   |some z=>some (.val (.tup [z,.bool false]) h)
   |none=>none
  |some _,some .xQ=>match zeroOf P t with
   |some z=>some (.val (.tup [z,.bool false]) h)
   |none=>none
  |_,_=>none
 |.range t x=>match P.underlying t,e x with
  |some (.map _ _),some .zcd=>some (.val (.ptr h.length 0 0 0) (h++[Blk.zaU none]))
  |some (.map _ _),some (.map loc)=>match h[loc]? with
   |some (.map [(k,v)])=>some (.val (.ptr h.length 0 0 0) ((h++[Blk.mit loc false]).set loc (.zbm k v h.length)))
   |some (.map _)=>some (.val (.ptr h.length 0 0 0) (h++[Blk.zaU (some loc)]))
   |_=>none
  |_,_=>none
 |.next x false=>match e x with
  |some (.ptr loc 0 0 0)=>match h[loc]? with
   |some (.zaU none)=>some (.val (.tup [.bool false]) h)
   |some (.zaU (some l))=>match h[l]? with
    |some (.map [])=>some (.val (.tup [.bool false]) h)
    |_=>none
   |some (.mit l s)=>match h[l]?,s with
    |some (.zbm k v it),false=>if it=loc then some (.val (.tup [.bool true,k,v]) (h.set loc (.mit l true))) else none
    |some (.zbm k v it),true=>if it=loc then some (.val (.tup [.bool false]) ((h.set l (.map [(k,v)])).set loc .gone)) else none
    |_,_=>none
   |_=>none
  |_=>none
 |.entry x=>match e x with
  |some (.ptr loc 0 0 0)=>match h[loc]? with
   |some (.mit l true)=>match h[l]? with
    |some (.zbm k v it)=>if it=loc then some (.val (.tup [k,v]) h) else none
    |_=>none
   |_=>none
  |_=>none
 |.extract x i=>match e x with
  |some (.tup l)=>rv h l[i]?
  |_=>none
 |.call c=>match c.callee,zdp e c.args.toList with
  |.value f,some args=>match e f with
   |some (.fn f first cap)=>some (.call (.f f) (first++args++cap))
   |some (.yld loc)=>some (.call (.y loc) args)
   |_=>none
  |.builtin b,some args=>qh P b c.argTypes.toList args h
  |_,_=>none
 |.defer c=>match c.callee,zdp e c.args.toList with
  |.value f,some args=>match e f with
   |some (.fn f first cap)=>some (.dfr f (first++args) cap)
   |_=>none
  |_,_=>none
 |_=>none
def ROk(P:Program)(G:Gh)(B:Nat)(w:World)(op:Op)(ρ:Operand->Value):Rs->Prop
 |.val v h'=>∃ w' u G',(∀ dst ty pos after g,(execOp ρ ⟨dst,op,ty,pos,after,g⟩).run P w=.ok (.value u) w')/\Step G G' B h' w w'/\V G' v u
 |.unit h'=>∃ w' G',(∀ dst ty pos after g,(execOp ρ ⟨dst,op,ty,pos,after,g⟩).run P w=.ok .skip w')/\Step G G' B h' w w'
 |.dfr f args cap=>∃ us vc,VL G args us/\VL G cap vc/\∀ dst ty pos after g,(execOp ρ ⟨dst,op,ty,pos,after,g⟩).run P w=.ok (.defer { target:=.fn (.func f) vc.toArray,args:=us.toArray }) w
 |.call (.y loc) args=>∃ us r,VL G args us/\G.at loc 0=some r/\∀ dst ty pos after g,(execOp ρ ⟨dst,op,ty,pos,after,g⟩).run P w=(Instr.yield r.b us.toArray).run P w
 |.call (.f f) args=>∃ us,VL G args us/\∀ dst ty pos after g,(execOp ρ ⟨dst,op,ty,pos,after,g⟩).run P w=(callFunc f us.toArray).run P w
section
variable {P:Program} {G:Gh} {B:Nat} {h:za} {w:World} {op:Op} {ρ:Operand->Value} {e:Operand->Option AV}
theorem ROk.quiet{v:AV}{u:Value}(hr:HR G B h w)(hv:V G v u)(hrun:∀ dst ty pos after g,(execOp ρ ⟨dst,op,ty,pos,after,g⟩).run P w=.ok (.value u) w):ROk P G B w op ρ (.val v h):=
 ⟨w,u,G,hrun,.refl hr,hv⟩
theorem xW(G:Gh){v:Value}{x:AV}(h:zcs v=some x):V G x v:=by
 unfold zcs at h
 split at h
 case h_9=>
  split at h
  ·rename_i f first cap hc
   cases h
   obtain⟨h1,h2⟩:=hc
   obtain rfl:first=#[]:=by simpa using h1
   obtain rfl:cap=#[]:=by simpa using h2
   exact .fn f .nil .nil
  ·cases h
 case h_10=>
  split at h
  ·rename_i cs hc
   cases h
   obtain rfl:cs=#[]:=by simpa using hc
   exact .tup .nil
  ·cases h
 case h_3=>cases h;rename_i s;exact .str s.data.toList
 all_goals first|cases h|skip
 all_goals constructor
theorem xY(G:Gh):∀ {vs:List Value} {xs:List AV},za1 vs=some xs->VL G xs vs
 | [],_,h=>by cases h;exact .nil
 |v::l,xs,h=>by
  unfold za1 at h
  split at h
  ·rename_i x xs' h1 h2
   cases h
   exact .cons (xW G h1) (xY G h2)
  ·cases h
theorem xX(G:Gh){v:Value}{x:AV}(h:zaZ v=some x):V G x v:=by
 unfold zaZ at h
 split at h
 ·rename_i cs
  cases hc:za1 cs.toList with
  |none=>rw[hc] at h;cases h
  |some xs=>
   rw[hc] at h
   cases h
   have:=V.agg (xY G hc)
   simpa using this
 ·exact xW G h
theorem za0(G:Gh){v:Value}{x:AV}(h:ofConst v=some x):V G x v:=by
 unfold ofConst at h
 split at h
 ·rename_i t v
  cases hc:zaZ v with
  |none=>rw[hc] at h;cases h
  |some y=>rw[hc] at h;cases h;exact .ifc t (xX G hc)
 ·exact xX G h
theorem jl(he:∀ x v,e x=some v->V G v (ρ x)):∀ {l:List Operand} {vs:List AV},zdp e l=some vs->VL G vs (l.map ρ)
 | [],_,h=>by cases h;exact .nil
 |x::l,vs,h=>by
  unfold zdp at h
  split at h
  ·rename_i v vs' h1 h2
   cases h
   exact .cons (he x v h1) (jl he h2)
  ·cases h
theorem xg(he:∀ x v,e x=some v->V G v (ρ x)):∀ {l:List (Nat×Operand)} {vs:List (Nat×AV)},qH e l=some vs->vs.map (·.1)=l.map (·.1)/\VL G (vs.map (·.2)) (l.map fun p=>ρ p.2)
 | [],_,h=>by cases h;exact⟨rfl,.nil⟩
 |(i,x)::l,vs,h=>by
  unfold qH at h
  split at h
  ·rename_i v vs' h1 h2
   cases h
   obtain⟨h3,h4⟩:=xg he h2
   exact⟨by simp [h3],.cons (he x v h1) h4⟩
  ·cases h
theorem run_sizeOf{t:TypeId}{n:Nat}(h:wI P t=some n)(w:World):(sizeOf t).run P w=.ok n w:=by
 unfold wI at h
 cases hi:P.info? t with
 |none=>rw[hi] at h;cases h
 |some i=>rw[hi] at h;cases h;simp [sizeOf,typeInfo,hi]
theorem kd{t:TypeId}{b:Bool}(h:zeV P t=some b)(w:World):(isAgg t).run P w=.ok b w:=by
 unfold zeV at h
 cases hd:P.underlying t with
 |none=>rw[hd] at h;cases h
 |some d=>
  rw[hd] at h
  cases d<;>(cases h;simp [isAgg,run_underlying hd])
theorem jv{t:TypeId}{x:AV}(G:Gh)(h:zeroOf P t=some x):∃ z,(∀ w,(zeroValue t).run P w=.ok z w)/\V G x z/\∃ i,P.info? t=some i/\i.zero=some z:=by
 unfold zeroOf at h
 split at h
 ·rename_i i hi
  split at h
  ·rename_i z hz
   exact⟨z,fun w=>by simp [zeroValue,typeInfo,hi,hz],za0 G h,i,hi,hz⟩
  ·cases h
 ·cases h
theorem ziy{op:BinOp}{k:IntKind}{a b:Int}{x:AV}{t:TypeId}(h:zlD op k a b=some x):∃ u,V G x u/\(op≠.shl->op≠.shr->∀ w,(binOp op t (.int k a) (.int k b)).run P w=.ok u w):=by
 unfold zlD at h
 split at h
 case h_1|h_2|h_3=>cases h;exact⟨_,.int _ _,fun _ _ w=>by simp [binOp,Op.intArith]⟩
 case h_4|h_5=>
  split at h
  ·cases h
  ·rename_i hb;cases h;exact⟨_,.int _ _,fun _ _ w=>by simp [binOp,Op.intDiv,hb]⟩
 case h_6|h_7|h_8|h_9=>cases h;exact⟨_,.int _ _,fun _ _ w=>by simp [binOp,Op.intBits,zb8]⟩
 case h_10|h_11|h_12|h_13|h_14=>cases h;exact⟨_,.bool _,fun _ _ w=>by simp [binOp,Op.intCmp]⟩
 case h_15=>cases h;exact⟨_,.bool _,fun _ _ w=>by simp [binOp,Op.intCmp,bne]⟩
 case h_16=>cases h
theorem ziC{op:BinOp}{a b:List UInt8}{x:AV}{t:TypeId}(h:zqv op a b=some x):∃ u,V G x u/\∀ w,(binOp op t (zbd a) (zbd b)).run P w=.ok u w:=by
 unfold zqv at h
 split at h<;>first|cases h|skip
 ·split at h
  ·rename_i hl
   cases h
   refine⟨_,.str _,fun w=>?_⟩
   have h3:(ByteArray.mk a.toArray++ByteArray.mk b.toArray)=ByteArray.mk (a++b).toArray:=by
    apply ByteArray.ext;simp
   have h4:=run_string_add_sum (P:=P) w (ByteArray.mk a.toArray) (ByteArray.mk b.toArray) (by show a.toArray.size+b.toArray.size<=_;simp only[List.size_toArray];omega)
   unfold zbd
   simp only[binOp_string_add,h4,h3]
  ·cases h
 all_goals exact⟨_,.bool _,fun w=>by simp [binOp,zbd,Op.stringOp,bne]⟩
end
section
variable {P:Program} {G:Gh} {B:Nat} {h:za} {w:World} {op:Op} {ρ:Operand->Value} {e:Operand->Option AV}
theorem kB{t:TypeId}{cs:List AV}{us:List Value}{off:Nat}{x:AV}(hp:zaW P t cs off=some x)(hx:VL G cs us):∃ u,V G x u/\∀ w,(part t us.toArray off).run P w=.ok u w:=by
 unfold zaW at hp
 split at hp
 ·rename_i n h1 h2
  cases hp
  refine⟨_,.agg ((hx.drop off).take n),fun w=>?_⟩
  simp [part,kd h1,run_sizeOf h2,List.extract_toArray,List.extract_eq_take_drop]
 ·rename_i h1
  obtain⟨u,h2,h3⟩:=hx.get hp
  exact⟨u,h3,fun w=>by simp [part,kd h1,h2]⟩
 ·cases hp
theorem zgb{t:TypeId}(h:wide P t=true):∃ n,wI P t=some (n+1):=by
 unfold wide at h
 split at h
 ·exact⟨_,by assumption⟩
 ·cases h
theorem zfw:∀ {d:Nat} {t:TypeId} {x y:AV} {r:Bool} {u v:Value},meq P d t x y=some r->V G x u->V G y v->∀ (D:Nat),d<=D->∀ w,(Op.equalIn D t u v).run P w=.ok r w
 |0,_,_,_,_,_,_,h,_,_,_,_,_=>by cases h
 |d+1,t,x,y,r,u,v,h,hx,hy,0,hD,_=>by omega
 |d+1,t,x,y,r,u,v,h,hx,hy,D+1,hD,w=>by
  unfold meq at h
  split at h
  ·rename_i a b ht;obtain rfl:=Option.some.inj h;cases hx;cases hy;rw[run_equalIn_bool' w D t a b ht]
  ·rename_i k0 k a k' b ht
   split at h
   ·rename_i hk;subst hk;cases h;cases hx;cases hy;rw[run_equalIn_int w D t k k0 a b ht]
   ·cases h
  ·rename_i a b ht;obtain rfl:=Option.some.inj h;cases hx;cases hy
   rw[show zbd a=Value.string ⟨a.toArray⟩ from rfl,show zbd b=Value.string ⟨b.toArray⟩ from rfl,run_equalIn_string w D t _ _ ht]
   simp
  ·rename_i ht;obtain rfl:=Option.some.inj h;cases hx;cases hy;unfold Op.equalIn;rw[Sem.run_bind,run_underlying ht];simp
  ·rename_i ht;obtain rfl:=Option.some.inj h;cases hx;cases hy;unfold Op.equalIn;rw[Sem.run_bind,run_underlying ht];simp
  ·rename_i ht;obtain rfl:=Option.some.inj h;cases hx;cases hy;unfold Op.equalIn;rw[Sem.run_bind,run_underlying ht];simp
  ·rename_i el l o vr lm l' o' vr' lm' ht
   split at h
   ·rename_i hc
    obtain⟨rfl,rfl,hz⟩:=hc
    cases h
    cases hx with
    |ptr a1 a2 a3=>
     cases hy with
     |ptr b1 b2 b3=>
      rw[a1] at b1;cases b1
      obtain⟨n,hs⟩:=zgb hz
      unfold Op.equalIn;rw[Sem.run_bind,run_underlying ht]
      simp [run_sizeOf hs,sameAddr]
      rw[Bool.eq_iff_iff];simp;omega
   ·cases h
  ·rename_i ht;obtain rfl:=Option.some.inj h;cases hx;cases hy;unfold Op.equalIn;rw[Sem.run_bind,run_underlying ht];simp
  ·rename_i ht;obtain rfl:=Option.some.inj h;cases hx;cases hy;unfold Op.equalIn;rw[Sem.run_bind,run_underlying ht];simp
  ·rename_i ht;obtain rfl:=Option.some.inj h;cases hx;cases hy;unfold Op.equalIn;rw[Sem.run_bind,run_underlying ht];simp
  ·rename_i ht;obtain rfl:=Option.some.inj h;cases hx;cases hy;unfold Op.equalIn;rw[Sem.run_bind,run_underlying ht];simp
  ·rename_i ht;obtain rfl:=Option.some.inj h;cases hx;cases hy;unfold Op.equalIn;rw[Sem.run_bind,run_underlying ht];simp
  ·rename_i fs xs ys ht
   split at h
   ·cases h
   ·rename_i hst
    cases hx with
    |agg hx=>
     cases hy with
     |agg hy=>
      rename_i us vs
      have hf:P.fieldsOf t=fs:=by unfold Program.fieldsOf;rw[ht]
      rw[run_equalIn_struct w D t _ _ (by rw[hf];exact ht) (by simpa using hst),hf]
      generalize fs.toList=l at h
      induction l with
      |nil=>cases h;simp [Op.eqFields]
      |cons f l ih=>
       unfold zoX at h
       unfold Op.eqFields
       split at h
       ·rename_i hn
        rw[if_pos hn]
        cases ha:zaW P f.type xs f.offset with
        |none=>rw[ha] at h;simp at h
        |some a=>
         cases hb:zaW P f.type ys f.offset with
         |none=>rw[ha,hb] at h;simp at h
         |some b=>
          rw[ha,hb] at h
          obtain⟨ua,va,ra⟩:=kB ha hx
          obtain⟨ub,vb,rb⟩:=kB hb hy
          simp only at h
          cases hm:meq P d f.type a b with
          |none=>rw[hm] at h;cases h
          |some q=>
           rw[hm] at h
           have:=zfw hm va vb D (by omega) w
           cases q with
           |true=>simp only at h;simp [ra,rb,this];exact ih h
           |false=>simp only at h;cases h;simp [ra,rb,this]
       ·rename_i hn
        rw[if_neg hn];exact ih h
  ·rename_i ht;obtain rfl:=Option.some.inj h;cases hx;cases hy;unfold Op.equalIn;rw[Sem.run_bind,run_underlying ht];simp
  ·rename_i ht;obtain rfl:=Option.some.inj h;cases hx;cases hy<;>(unfold Op.equalIn;rw[Sem.run_bind,run_underlying ht];simp)
  ·rename_i ht;obtain rfl:=Option.some.inj h;cases hy;cases hx<;>(unfold Op.equalIn;rw[Sem.run_bind,run_underlying ht];simp)
  ·rename_i ht;obtain rfl:=Option.some.inj h;cases hx;cases hy;unfold Op.equalIn;rw[Sem.run_bind,run_underlying ht];simp
  ·rename_i ht;obtain rfl:=Option.some.inj h;cases hx;cases hy;unfold Op.equalIn;rw[Sem.run_bind,run_underlying ht];simp
  ·rename_i ht;obtain rfl:=Option.some.inj h;cases hx;cases hy;unfold Op.equalIn;rw[Sem.run_bind,run_underlying ht];simp
  ·rename_i ht;obtain rfl:=Option.some.inj h;cases hx;cases hy;unfold Op.equalIn;rw[Sem.run_bind,run_underlying ht];simp
  ·rename_i ht;obtain rfl:=Option.some.inj h;cases hx;cases hy;unfold Op.equalIn;rw[Sem.run_bind,run_underlying ht];simp
  ·rename_i ht;obtain rfl:=Option.some.inj h;cases hx;cases hy;unfold Op.equalIn;rw[Sem.run_bind,run_underlying ht];simp
  ·cases h
theorem zpn{x:Operand}(h:isC x=true):∃ v,x=.const v:=by cases x<;>simp [isC] at h;exact⟨_,rfl⟩
theorem zgw{bo:BinOp}{t:TypeId}{x y:Operand}{a b:AV}{u v:Value}(h:zak P bo t x y a b=true)(hx:V G a u)(hy:V G b v)(w:World):(eqGuard bo t x y u v).run P w=.ok () w:=by
 have key:(bo=.eql\/bo=.neq)->zee P t x y a b=true->(eqGuard bo t x y u v).run P w=.ok () w:=by
  intro hbo h
  cases hx<;>cases hy<;>(try (rcases hbo with rfl|rfl<;>simp [eqGuard,zbd];done))
  ·simp only[zee,Bool.or_eq_true] at h
   rcases h with h|h<;>(obtain⟨c,rfl⟩:=zpn h;rcases hbo with rfl|rfl<;>simp [eqGuard])
  ·have hg:P.eqGuardType P.depth t=false:=by simpa [zee] using h
   exact run_eqGuard_agg w bo t x y _ _ hg
 cases bo<;>first|exact key (.inl rfl) h|exact key (.inr rfl) h|(simp [eqGuard];done)
theorem ziw{bo:BinOp}{t:TypeId}{a b c:AV}{u v:Value}(h:zer P bo t a b=some c)(hx:V G a u)(hy:V G b v):∃ z,V G c z/\∀ w,(binOp bo t u v).run P w=.ok z w:=by
 unfold zer at h
 split at h
 ·rename_i k a k' b
  cases hx;cases hy
  split at h
  ·unfold xV at h
   split at h
   ·cases h
   ·rename_i hb;cases h;exact⟨_,.int _ _,fun w=>by simp [binOp,Op.shift,hb]⟩
  ·unfold xV at h
   split at h
   ·cases h
   ·rename_i hb;cases h;exact⟨_,.int _ _,fun w=>by simp [binOp,Op.shift,hb]⟩
  ·rename_i h1 h2
   split at h
   ·rename_i hk
    subst hk
    obtain⟨z,hz,hrun⟩:=ziy (P:=P) (G:=G) (t:=t) h
    exact⟨z,hz,hrun h1 h2⟩
   ·cases h
 ·cases hx;cases hy
  exact ziC h
 ·cases h
 ·cases h
 ·cases hx
  cases hy with
  |iv g1 g2=>
   split at h
   ·split at h
    ·cases h
     rename_i hle
     exact⟨_,.bool true,fun w=>by simp [binOp,Op.intCmp];omega⟩
    ·split at h
     ·cases h
      rename_i hle
      exact⟨_,.bool false,fun w=>by simp [binOp,Op.intCmp];omega⟩
     ·cases h
   ·cases h
 ·cases hy
  cases hx with
  |iv g1 g2=>
   split at h
   ·split at h
    ·rename_i hc
     cases h
     rename_i n0 m0 _
     refine⟨.int .i64 (m0-n0),.iv (by omega) (by omega),fun w=>?_⟩
     have hw:IntKind.wrap .i64 (m0-n0)=m0-n0:=by rw[IntKind.wrap_i64];omega
     simp [binOp,Op.intArith,hw]
    ·cases h
   ·split at h
    ·cases h
     exact⟨_,.bool true,fun w=>by simp [binOp,Op.intCmp];omega⟩
    ·split at h
     ·cases h
      exact⟨_,.bool false,fun w=>by simp [binOp,Op.intCmp];omega⟩
     ·cases h
   ·split at h
    ·cases h
     exact⟨_,.bool true,fun w=>by simp [binOp,Op.intCmp];omega⟩
    ·split at h
     ·cases h
      exact⟨_,.bool false,fun w=>by simp [binOp,Op.intCmp];omega⟩
     ·cases h
   ·cases h
 ·cases h
 ·cases h
 ·rename_i hn3 hn4 hn5 hn6 hn7 hn1 hn2 hn8
  have heq:∀ r,meq P 8 t a b=some r->∀ w,(Op.equal t u v).run P w=.ok r w:=fun r hr w=>zfw hr hx hy 10000 (by omega) w
  split at h
  ·split at h
   ·rename_i r hr
    cases h
    refine⟨_,.bool r,fun w=>?_⟩
    have:binOp .eql t u v=(do pure (.bool (<- Op.equal t u v))):=by
     cases hx<;>cases hy<;>first|rfl|exact(hn7 _ _ _ _ rfl rfl).elim|exact(hn1 _ _ rfl rfl).elim|exact(hn3 rfl).elim|exact(hn4 _ _ rfl).elim|exact(hn5 rfl).elim|exact(hn6 _ _ rfl).elim|skip
    rw[this];simp [heq r hr w]
   ·cases h
  ·split at h
   ·rename_i r hr
    cases h
    refine⟨_,.bool _,fun w=>?_⟩
    have:binOp .neq t u v=(do pure (.bool (!(<- Op.equal t u v)))):=by
     cases hx<;>cases hy<;>first|rfl|exact(hn7 _ _ _ _ rfl rfl).elim|exact(hn1 _ _ rfl rfl).elim|exact(hn3 rfl).elim|exact(hn4 _ _ rfl).elim|exact(hn5 rfl).elim|exact(hn6 _ _ rfl).elim|skip
    rw[this];simp [heq r hr w]
   ·cases h
  ·cases h
end
theorem qB{h:za}{o:Option AV}{r:Rs}(he:rv h o=some r):∃ v,o=some v/\r=.val v h:=by
 unfold rv at he
 split at he
 ·cases he;exact⟨_,rfl,rfl⟩
 ·cases he
theorem kH{o:Option (AV×za)}{r:Rs}(he:rvh o=some r):∃ v h,o=some (v,h)/\r=.val v h:=by
 unfold rvh at he
 split at he
 ·cases he;exact⟨_,_,rfl,rfl⟩
 ·cases he
theorem zgZ{o:Option za}{r:Rs}(he:ru o=some r):∃ h,o=some h/\r=.unit h:=by
 unfold ru at he
 split at he
 ·cases he;exact⟨_,rfl,rfl⟩
 ·cases he
section
variable {P:Program} {G:Gh} {B:Nat} {h:za} {w:World} {op:Op} {ρ:Operand->Value} {e:Operand->Option AV} {r:Rs}
theorem zpP{x:Operand}(hr:HR G B h w)(he:∀ x v,e x=some v->V G v (ρ x))(hm:mop P e h (.move x)=some r):ROk P G B w (.move x) ρ r:=by
 obtain⟨v,h1,rfl⟩:=qB hm
 exact ROk.quiet hr (he _ _ h1) (by intros;simp [execOp])
theorem zml{x:Operand}(hr:HR G B h w)(he:∀ x v,e x=some v->V G v (ρ x))(hm:mop P e h (.assign x)=some r):ROk P G B w (.assign x) ρ r:=by
 obtain⟨v,h1,rfl⟩:=qB hm
 exact ROk.quiet hr (he _ _ h1) (by intros;simp [execOp])
theorem zcA{b:Bool}{u:Value}(h:V G (.bool b) u):u=.bool b:=by cases h;rfl
theorem qV{k:IntKind}{n:Int}{u:Value}(h:V G (.int k n) u):u=.int k n:=by cases h;rfl
theorem xP{l:List UInt8}{u:Value}(h:V G (.str l) u):u=zbd l:=by cases h;rfl
theorem zpR{c a b:Operand}(hr:HR G B h w)(he:∀ x v,e x=some v->V G v (ρ x))(hm:mop P e h (.pick c a b)=some r):ROk P G B w (.pick c a b) ρ r:=by
 simp only[mop] at hm
 split at hm
 ·rename_i hc
  obtain⟨v,h1,rfl⟩:=qB hm
  have:=zcA (he _ _ hc)
  exact ROk.quiet hr (he _ _ h1) (by intros;simp [execOp,this,asBool])
 ·rename_i hc
  obtain⟨v,h1,rfl⟩:=qB hm
  have:=zcA (he _ _ hc)
  exact ROk.quiet hr (he _ _ h1) (by intros;simp [execOp,this,asBool])
 ·cases hm
theorem ziR{x:Operand}(hr:HR G B h w)(he:∀ x v,e x=some v->V G v (ρ x))(hm:mop P e h (.nilCheck x)=some r):ROk P G B w (.nilCheck x) ρ r:=by
 simp only[mop] at hm
 split at hm<;>try (cases hm;done)
 rename_i v n1 n2 n3 hv
 cases hm
 have hV:=he _ _ hv
 refine ROk.quiet hr hV ?_
 intros
 generalize hu:ρ x=u at hV
 cases hV<;>first|exact(n1 rfl).elim|exact(n2 rfl).elim|exact(n3 rfl).elim|(simp [execOp,hu,zbd];done)
theorem zow{bo:BinOp}{t yt:TypeId}{x y:Operand}(hr:HR G B h w)(he:∀ x v,e x=some v->V G v (ρ x))(hm:mop P e h (.binOp bo t x y yt)=some r):ROk P G B w (.binOp bo t x y yt) ρ r:=by
 simp only[mop] at hm
 split at hm
 ·rename_i a b ha hb
  split at hm
  ·rename_i hg
   obtain⟨v,h1,rfl⟩:=qB hm
   obtain⟨z,hz,hrun⟩:=ziw h1 (he _ _ ha) (he _ _ hb)
   have hgd:=zgw hg (he _ _ ha) (he _ _ hb) w
   refine ROk.quiet hr hz ?_
   intros
   show(do pure (Next.value (<- (do eqGuard bo t x y (ρ x) (ρ y);binOp bo t (ρ x) (ρ y)))):Sem Next).run P w=_
   simp only[Sem.run_bind,hgd,hrun w,Result.andThen_ok,Sem.run_pure]
  ·cases hm
 ·cases hm
theorem zpS{u:UnOp}{t:TypeId}{x:Operand}(hr:HR G B h w)(he:∀ x v,e x=some v->V G v (ρ x))(hm:mop P e h (.unOp u t x)=some r):ROk P G B w (.unOp u t x) ρ r:=by
 simp only[mop] at hm
 split at hm
 ·rename_i hx
  cases hm
  have:=qV (he _ _ hx)
  exact ROk.quiet hr (.int _ _) (by intros;simp [execOp,this,Op.unary,Op.intArith])
 ·rename_i hx
  cases hm
  have:=zcA (he _ _ hx)
  exact ROk.quiet hr (.bool _) (by intros;simp [execOp,this,Op.unary])
 ·rename_i hx
  cases hm
  have:=qV (he _ _ hx)
  exact ROk.quiet hr (.int _ _) (by intros;simp [execOp,this,Op.unary,Op.intBits,zb8])
 ·cases hm
theorem zc4{t:TypeId}{x:Operand}(hr:HR G B h w)(he:∀ x v,e x=some v->V G v (ρ x))(hm:mop P e h (.makeInterface t x)=some r):ROk P G B w (.makeInterface t x) ρ r:=by
 simp only[mop] at hm
 cases hd:P.underlying t with
 |none=>rw[hd] at hm;simp at hm
 |some d=>
  rw[hd] at hm
  cases hv:e x with
  |none=>rw[hv] at hm;cases d<;>simp at hm
  |some v=>
   rw[hv] at hm
   cases d<;>simp at hm<;>(subst hm;exact ROk.quiet hr (.ifc t (he _ _ hv)) (by intros;simp [execOp,Instr.makeInterface,run_underlying hd]))
theorem zfW{x:Operand}{xt t:TypeId}{ok:Bool}(hr:HR G B h w)(he:∀ x v,e x=some v->V G v (ρ x))(hm:mop P e h (.typeAssert x xt t ok)=some r):ROk P G B w (.typeAssert x xt t ok) ρ r:=by
 cases ok with
 |false=>simp [mop] at hm
 |true=>
  simp only[mop] at hm
  split at hm
  ·cases hm
  ·rename_i d t' v hn hd hx
   have hV:=he _ _ hx
   generalize hu:ρ x=u at hV
   cases hV with
   | @ifc _ _ u' hv=>
    split at hm
    ·rename_i ht
     subst ht
     cases hm
     refine ROk.quiet hr (.tup (.cons hv (.cons (.bool true) .nil))) ?_
     intros
     cases d<;>first|exact absurd rfl (hn _)|simp [execOp,Instr.typeAssert,run_underlying hd,hu]
    ·rename_i ht
     split at hm
     ·rename_i z hz
      cases hm
      obtain⟨z',hz',hvz,_⟩:=jv G hz
      refine ROk.quiet hr (.tup (.cons hvz (.cons (.bool false) .nil))) ?_
      intros
      cases d<;>first|exact absurd rfl (hn _)|simp [execOp,Instr.typeAssert,run_underlying hd,hu,ht,hz']
     ·cases hm
  ·rename_i d hn hd hx
   have hV:=he _ _ hx
   generalize hu:ρ x=u at hV
   cases hV
   split at hm
   ·rename_i z hz
    cases hm
    obtain⟨z',hz',hvz,_⟩:=jv G hz
    refine ROk.quiet hr (.tup (.cons hvz (.cons (.bool false) .nil))) ?_
    intros
    cases d<;>first|exact absurd rfl (hn _)|simp [execOp,Instr.typeAssert,run_underlying hd,hu,hz']
   ·cases hm
  ·cases hm
theorem ziQ{f:FuncId}{first cap:Array Operand}(hr:HR G B h w)(he:∀ x v,e x=some v->V G v (ρ x))(hm:mop P e h (.makeFunc (.func f) first cap)=some r):ROk P G B w (.makeFunc (.func f) first cap) ρ r:=by
 simp only[mop] at hm
 split at hm
 ·rename_i a b ha hb
  cases hm
  refine ROk.quiet hr (.fn f (jl he ha) (jl he hb)) ?_
  intros
  simp only[execOp,Instr.makeFunc,Sem.run_bind,Sem.run_pure,Result.andThen_ok,Result.ok.injEq,Next.value.injEq,and_true]
  congr 1<;>(apply Array.ext';simp)
 ·cases hm
theorem zkK{x:Operand}{i:Nat}(hr:HR G B h w)(he:∀ x v,e x=some v->V G v (ρ x))(hm:mop P e h (.extract x i)=some r):ROk P G B w (.extract x i) ρ r:=by
 simp only[mop] at hm
 split at hm
 ·rename_i l hx
  obtain⟨v,h1,rfl⟩:=qB hm
  have hV:=he _ _ hx
  generalize hu:ρ x=u at hV
  cases hV with
  |tup hl=>
   obtain⟨u,h2,h3⟩:=hl.get h1
   exact ROk.quiet hr h3 (by intros;simp [execOp,hu,Instr.extract,h2])
 ·cases hm
theorem zoA{t:TypeId}{x:Operand}{f:Nat}(hr:HR G B h w)(he:∀ x v,e x=some v->V G v (ρ x))(hm:mop P e h (.field t x f)=some r):ROk P G B w (.field t x f) ρ r:=by
 simp only[mop] at hm
 split at hm
 ·rename_i fs cs hd hx
  split at hm
  ·rename_i fd hf
   obtain⟨v,h1,rfl⟩:=qB hm
   have hV:=he _ _ hx
   generalize hu:ρ x=u at hV
   cases hV with
   |agg hl=>
    obtain⟨u,h2,h3⟩:=kB h1 hl
    exact ROk.quiet hr h2 (by intros;simp [execOp,hu,Instr.field,run_underlying hd,hf,asAgg,h3])
  ·cases hm
 ·cases hm
theorem zg1{s:TypeId}{x:Operand}{f:Nat}(hr:HR G B h w)(he:∀ x v,e x=some v->V G v (ρ x))(hm:mop P e h (.fieldAddr s x f)=some r):ROk P G B w (.fieldAddr s x f) ρ r:=by
 simp only[mop] at hm
 split at hm
 ·rename_i a hx
  obtain⟨v,h1,rfl⟩:=qB hm
  have hV:=he _ _ hx
  unfold w8 at h1
  split at h1
  ·rename_i fs loc off ver lim hd
   split at h1
   ·rename_i fd hf
    split at h1
    ·rename_i n hs
     cases h1
     generalize hu:ρ x=u at hV
     cases hV with
     | @ptr _ _ _ _ r ha h2 h3=>
      refine ROk.quiet hr (.ptr ha (Nat.le_trans h2 (Nat.le_add_right _ _)) h3) ?_
      intros
      simp only[execOp,hu,Sem.run_bind,zg0 hd hf (run_sizeOf hs),Result.andThen_ok,Sem.run_pure]
      rw[show off+r.sh-r.lo+fd.offset=off+fd.offset+r.sh-r.lo from by omega]
    ·cases h1
   ·cases h1
  ·cases h1
 ·cases hm
theorem zg2{t:TypeId}{x i:Operand}(hr:HR G B h w)(he:∀ x v,e x=some v->V G v (ρ x))(hm:mop P e h (.indexAddr t x i)=some r):ROk P G B w (.indexAddr t x i) ρ r:=by
 simp only[mop] at hm
 split at hm
 ·rename_i a b hx hi
  obtain⟨v,h1,rfl⟩:=qB hm
  have hV:=he _ _ hx
  have hI:=he _ _ hi
  unfold zR at h1
  split at h1
  ·rename_i len el loc off ver lim k n hd
   split at h1
   ·rename_i z hz
    split at h1
    ·rename_i hc
     cases h1
     have hI':=qV hI
     generalize hu:ρ x=u at hV
     cases hV with
     | @ptr _ _ _ _ r ha h2 h3=>
      refine ROk.quiet hr (.ptr ha (Nat.le_trans h2 (Nat.le_add_right _ _)) h3) ?_
      intros
      simp only[execOp,hu,hI',Sem.run_bind]
      rw[show(Instr.indexAt t (.pointer (some ⟨r.b,off+r.sh-r.lo,none⟩)) (.int k n)).run P w=.ok (.pointer (some ⟨r.b,off+n.toNat*z+r.sh-r.lo,none⟩)) w from by
       rw[show off+n.toNat*z+r.sh-r.lo=off+r.sh-r.lo+n.toNat*z from by omega]
       simp [Instr.indexAt,Instr.sureAddr,asIntOf,run_underlying hd,run_sizeOf hz,Addr.add_lit,hc.1,hc.2]]
      rfl
    ·cases h1
   ·cases h1
  ·rename_i el loc off len sz ver clip k n hd
   split at h1
   ·rename_i z hz
    split at h1
    ·rename_i hc
     obtain⟨rfl,hc1,hc2⟩:=hc
     cases h1
     have hI':=qV hI
     generalize hu:ρ x=u at hV
     cases hV with
     | @sl _ _ _ _ _ cap _ r ha h2 h3 h4 h5 h6 h7 h8 h9=>
      refine ROk.quiet hr (.ptr ha (Nat.le_trans h2 (Nat.le_add_right _ _)) h3) ?_
      intros
      simp only[execOp,hu,hI',Sem.run_bind]
      rw[show(Instr.indexAt t (.slice (some ⟨r.b,off+r.sh-r.lo,none⟩) len cap) (.int k n)).run P w=.ok (.pointer (some ⟨r.b,off+n.toNat*z+r.sh-r.lo,none⟩)) w from by
       rw[show off+n.toNat*z+r.sh-r.lo=off+r.sh-r.lo+n.toNat*z from by omega]
       simp [Instr.indexAt,Instr.sureAddr,asIntOf,run_underlying hd,run_sizeOf hz,Addr.add_lit,hc1,hc2]]
      rfl
     |sl0=>omega
    ·cases h1
   ·cases h1
  ·cases h1
 ·cases hm
theorem zoB{t:TypeId}{x i:Operand}(hr:HR G B h w)(he:∀ x v,e x=some v->V G v (ρ x))(hm:mop P e h (.index t x i)=some r):ROk P G B w (.index t x i) ρ r:=by
 simp only[mop] at hm
 split at hm
 ·rename_i a b hx hi
  obtain⟨v,h1,rfl⟩:=qB hm
  have hV:=he _ _ hx
  have hI:=he _ _ hi
  unfold zdM at h1
  split at h1
  ·rename_i l k n hd
   split at h1
   ·rename_i h0
    split at h1
    ·rename_i b hb
     cases h1
     have hI':=qV hI
     have hS:=xP hV
     refine ROk.quiet hr (.int _ _) ?_
     intros
     obtain⟨hlt,hb'⟩:=List.getElem?_eq_some_iff.1 hb
     have h2:0<=n/\n<(ByteArray.mk l.toArray).size:=⟨h0,by rw[size_mk];omega⟩
     have h3:(ByteArray.mk l.toArray)[n.toNat]'(by rw[size_mk];omega)=b:=by rw[<- hb'];rfl
     simp only[execOp,hS,hI',zbd,Sem.run_bind,run_index_string w t _ k n hd,dif_pos h2,h3,Result.andThen_ok,Sem.run_pure]
    ·cases h1
   ·cases h1
  ·rename_i len el cs k n hd
   split at h1
   ·rename_i z hz
    split at h1
    ·rename_i hc
     have hI':=qV hI
     generalize hu:ρ x=u at hV
     cases hV with
     |agg hl=>
      obtain⟨u,h2,h3⟩:=kB h1 hl
      refine ROk.quiet hr h2 ?_
      intros
      simp [execOp,hu,hI',Instr.index,asIntOf,run_underlying hd,run_sizeOf hz,hc.1,hc.2,h3]
    ·cases h1
   ·cases h1
  ·cases h1
 ·cases hm
end
section
variable {P:Program} {G:Gh} {B:Nat} {h:za} {w:World} {op:Op} {ρ:Operand->Value} {e:Operand->Option AV} {r:Rs}
theorem xd{o:Option Operand}{a:Option Int}(he:∀ x v,e x=some v->V G v (ρ x))(hb:jX e o=some a):∃ k,o.map ρ=a.map fun n=>Value.int k n:=by
 unfold jX at hb
 split at hb
 ·cases hb;exact⟨.i64,rfl⟩
 ·rename_i x
  split at hb
  ·rename_i k n hx
   cases hb
   exact⟨k,by simp [qV (he _ _ hx)]⟩
  ·cases hb
theorem qZ{k:IntKind}{n:Int}{y:Nat}{c:BoundsCode}(h0:0<=n)(h1:n<=y)(w:World):(Instr.sliceBound (.int k n) y c).run P w=.ok n.toNat w:=by
 simp [Instr.sliceBound,asIntOf,h0,h1]
theorem j5{isSlice:Bool}{len cap:Nat}{k1 k2:IntKind}{lo hi:Option Int}(h1:0<=lo.getD 0)(h2:lo.getD 0<=hi.getD len)(h3:hi.getD len<=cap)(w:World):
  (Instr.sliceBounds isSlice len cap (lo.map fun n=>Value.int k1 n) (hi.map fun n=>Value.int k2 n) none).run P w=.ok ((lo.getD 0).toNat,(hi.getD len).toNat,cap) w:=by
 cases lo<;>cases hi<;>simp at h1 h2 h3<;>simp [Instr.sliceBounds]
 ·rw[qZ h2 (by omega)];rfl
 ·rw[qZ h1 (by omega)];rfl
 ·rw[qZ (by omega) (by omega)];simp;rw[qZ h1 (by omega)];rfl
theorem zaz{isSlice:Bool}{len cap:Nat}{k1 k2 k3:IntKind}{lo hi:Option Int}{m:Int}(h1:0<=lo.getD 0)(h2:lo.getD 0<=hi.getD len)(h3:hi.getD len<=cap)(hm:m=hi.getD len)(hs:hi.isSome=true)(w:World):
  (Instr.sliceBounds isSlice len cap (lo.map fun n=>Value.int k1 n) (hi.map fun n=>Value.int k2 n) ((some m).map fun n=>Value.int k3 n)).run P w=.ok ((lo.getD 0).toNat,(hi.getD len).toNat,(hi.getD len).toNat) w:=by
 cases hi with
 |none=>cases hs
 |some b=>
  simp at h2 h3 hm
  subst hm
  cases lo<;>simp at h1 h2<;>simp [Instr.sliceBounds]
  ·rw[qZ h2 h3];simp;rw[qZ h2 (by omega)];rfl
  ·rw[qZ (by omega) h3];simp;rw[qZ (by omega) (by omega)];simp;rw[qZ h1 (by omega)];rfl
theorem zoD{t:TypeId}{x:Operand}{lo hi mx:Option Operand}(hr:HR G B h w)(he:∀ x v,e x=some v->V G v (ρ x))(hm:mop P e h (.slice t x lo hi mx)=some r):ROk P G B w (.slice t x lo hi mx) ρ r:=by
 simp only[mop] at hm
 split at hm
 ·rename_i xv a b c hx ha hb hc
  obtain⟨v,h1,rfl⟩:=qB hm
  have hV:=he _ _ hx
  obtain⟨k1,hlo⟩:=xd he ha
  obtain⟨k2,hhi⟩:=xd he hb
  obtain⟨k3,hmx⟩:=xd he hc
  have fin:∀ {u:Value},V G v u->(Instr.sliceAt t (ρ x) (a.map fun n=>Value.int k1 n) (b.map fun n=>Value.int k2 n) (c.map fun n=>Value.int k3 n)).run P w=.ok u w->ROk P G B w (.slice t x lo hi mx) ρ (.val v h):=by
   intro u hu hrun
   refine ROk.quiet hr hu ?_
   intros
   simp only[execOp,hlo,hhi,hmx,Sem.run_bind,hrun,Result.andThen_ok,Sem.run_pure]
  suffices key:qi P t xv a b c h=some v->ROk P G B w (.slice t x lo hi mx) ρ (.val v h) by
   unfold zaw at h1
   split at h1
   ·rename_i y hy;cases h1;exact key hy
   ·clear key
    unfold kC at h1
    split at h1
    ·rename_i el loc off len sz ver b hd hnone
     split at h1
     ·rename_i n cells v0 _ _ _ _ hn hb0
      simp only at h1
      split at h1
      ·rename_i hq
       obtain⟨rfl,q1,q2,q3,rfl,q4,q5⟩:=hq
       cases h1
       generalize hu:ρ x=u at hV
       cases hV with
       | @sl _ _ _ _ _ cap _ r g1 g2 g3 g4 g5 g6 g7 g8 g9=>
        have htop:r.top=cells.length:=by
         obtain⟨b1,vs,e1,e2,e3,e4⟩:=hr.get g1
         rw[hb0] at e1
         cases e1
         rcases e4 with rfl|e4
         ·cases e3
         ·exact(e4.tip r e3).1
        have h7:=g7 rfl
        have hbc:b.toNat<=cap:=Nat.le_of_mul_le_mul_right (show b.toNat*n<=cap*n by omega) g9
        have hbd:=j5 (P:=P) (isSlice:=true) (len:=len) (cap:=cap) (k1:=k1) (k2:=k2) (lo:=a) (hi:=some b) q1 q2 (by simp;omega) w
        have hab:(a.getD 0).toNat<=b.toNat:=by omega
        have hm1:(a.getD 0).toNat*n<=b.toNat*n:=Nat.mul_le_mul_right _ hab
        have hm2:b.toNat*n<=cap*n:=Nat.mul_le_mul_right _ hbc
        refine fin (u:=.slice (some (if cap=(a.getD 0).toNat then⟨r.b,off+r.sh-r.lo,none⟩ else⟨r.b,off+r.sh-r.lo+(a.getD 0).toNat*n,none⟩)) (b.toNat-(a.getD 0).toNat) (cap-(a.getD 0).toNat)) ?_ ?_
        ·by_cases hz:cap=(a.getD 0).toNat
         ·rw[if_pos hz,show b.toNat-(a.getD 0).toNat=0 from by omega,show cap-(a.getD 0).toNat=0 from by omega]
          refine .sl0 g1 (by omega) (by omega) (fun hc=>?_) g9
          rw[<- hz];exact h7
         ·rw[if_neg hz]
          have:off+r.sh-r.lo+(a.getD 0).toNat*n=off+(a.getD 0).toNat*n+r.sh-r.lo:=by omega
          rw[this]
          refine .sl g1 (by omega) ?_ (by omega) ?_ (fun hc=>by cases hc) (fun hc=>?_) (by omega) g9
          ·rw[Nat.sub_mul];omega
          ·rw[Nat.sub_mul];omega
          ·rw[Nat.sub_mul];omega
        ·rw[hu]
         simp only[Instr.sliceAt,Sem.run_bind,run_underlying hd,Result.andThen_ok,Instr.slice,Option.map_none,hbd,run_sizeOf hn,Sem.run_pure]
         simp only[Option.getD_some]
         split<;>simp [Addr.add_lit]
       |sl0=>omega
      ·cases h1
     ·cases h1
    ·cases h1
  clear h1
  intro h1
  unfold qi at h1
  split at h1
  ·
   rename_i l hd
   simp only at h1
   split at h1
   ·rename_i hq
    obtain⟨q0,q1,q2,q3⟩:=hq
    cases h1
    obtain rfl:c=none:=by simpa using q0
    have hS:=xP hV
    refine fin (.str _) ?_
    have hbd:=j5 (P:=P) (isSlice:=false) (len:=l.length) (cap:=l.length) (k1:=k1) (k2:=k2) q1 q2 q3 w
    rw[hS]
    unfold zbd
    simp only[Instr.sliceAt,Sem.run_bind,run_underlying hd,Result.andThen_ok,Instr.slice,Option.map_none,Option.isSome_none,Bool.false_eq_true,if_false,size_mk,Sem.run_pure,hbd,ByteArray.extract_mk]
   ·cases h1
  ·
   rename_i el hd
   split at h1
   ·rename_i hq
    obtain⟨q1,q2,q3,q4,q5⟩:=hq
    cases h1
    obtain⟨n,hn⟩:=Option.isSome_iff_exists.1 q5
    generalize hu:ρ x=u at hV
    cases hV
    refine fin .qj ?_
    rw[hu]
    cases c with
    |none=>
     have hbd:=j5 (P:=P) (isSlice:=true) (len:=0) (cap:=0) (k1:=k1) (k2:=k2) (lo:=a) (hi:=b) (by omega) (by simp;omega) (by simp;omega) w
     simp only[Instr.sliceAt,Sem.run_bind,run_underlying hd,Result.andThen_ok,Instr.slice,Option.map_none,hbd,run_sizeOf hn,Sem.run_pure]
     rw[q1,show b.getD ((0:Nat):Int)=0 from q2];simp
    |some m=>
     have hbd:=zaz (P:=P) (isSlice:=true) (len:=0) (cap:=0) (k1:=k1) (k2:=k2) (k3:=k3) (lo:=a) (hi:=b) (m:=m) (by omega) (by simp;omega) (by simp;omega) (by simp at q3;simp;omega) (q4 rfl) w
     simp only[Instr.sliceAt,Sem.run_bind,run_underlying hd,Result.andThen_ok,Instr.slice,hbd,run_sizeOf hn,Sem.run_pure]
     rw[q1,show b.getD ((0:Nat):Int)=0 from q2];simp
   ·cases h1
  ·
   rename_i el loc off len sz ver clip hd
   split at h1
   ·rename_i n hn
    simp only at h1
    split at h1
    ·rename_i hq
     obtain⟨rfl,q1,q2,q3⟩:=hq
     split at h1
     ·
      split at h1
      ·cases h1
      ·rename_i hcl
       cases h1
       generalize hu:ρ x=u at hV
       cases hV with
       | @sl _ _ _ _ _ cap _ r g1 g2 g3 g4 g5 g6 g7 g8 g9=>
        have hbd:=j5 (P:=P) (isSlice:=true) (len:=len) (cap:=cap) (k1:=k1) (k2:=k2) q1 q2 (by omega) w
        have hab:(a.getD 0).toNat<=(b.getD len).toNat:=by omega
        have hbl:(b.getD len).toNat<=len:=by omega
        have hm1:(a.getD 0).toNat*n<=(b.getD len).toNat*n:=Nat.mul_le_mul_right _ hab
        have hm2:(b.getD len).toNat*n<=len*n:=Nat.mul_le_mul_right _ hbl
        have hm3:len*n<=cap*n:=Nat.mul_le_mul_right _ g4
        refine fin (u:=.slice (some (if cap=(a.getD 0).toNat then⟨r.b,off+r.sh-r.lo,none⟩ else⟨r.b,off+r.sh-r.lo+(a.getD 0).toNat*n,none⟩)) ((b.getD len).toNat-(a.getD 0).toNat) (cap-(a.getD 0).toNat)) ?_ ?_
        ·by_cases hz:cap=(a.getD 0).toNat
         ·rw[if_pos hz,show(b.getD len).toNat-(a.getD 0).toNat=0 from by omega,show cap-(a.getD 0).toNat=0 from by omega]
          refine .sl0 g1 (by omega) (by omega) (fun hc=>?_) g9
          have:=g7 hc
          rw[<- hz];exact this
         ·rw[if_neg hz]
          have:off+r.sh-r.lo+(a.getD 0).toNat*n=off+(a.getD 0).toNat*n+r.sh-r.lo:=by omega
          rw[this]
          refine .sl g1 (by omega) ?_ (by omega) ?_ (fun hc=>?_) (fun hc=>?_) (by omega) g9
          ·rw[Nat.sub_mul];omega
          ·rw[Nat.sub_mul];omega
          ·have:=g6 hc
           have hbb:b.getD len=len:=by
            by_cases hbb:b.getD len=len
            ·exact hbb
            ·exact absurd ⟨hc,hbb⟩ hcl
           omega
          ·have:=g7 hc
           rw[Nat.sub_mul];omega
        ·rw[hu]
         simp only[Instr.sliceAt,Sem.run_bind,run_underlying hd,Result.andThen_ok,Instr.slice,Option.map_none,hbd,run_sizeOf hn,Sem.run_pure]
         split<;>simp [Addr.add_lit]
       | @sl0 _ _ _ _ o _ r g1 g2 g3 g6 g9=>
        have ha0:a.getD 0=0:=by omega
        have hb0:b.getD ((0:Nat):Int)=0:=by omega
        have hbd:=j5 (P:=P) (isSlice:=true) (len:=0) (cap:=0) (k1:=k1) (k2:=k2) q1 q2 (by omega) w
        refine fin (u:=.slice (some o) 0 0) ?_ ?_
        ·rw[ha0,hb0];simp;exact .sl0 g1 g2 g3 g6 g9
        ·rw[hu]
         simp only[Instr.sliceAt,Sem.run_bind,run_underlying hd,Result.andThen_ok,Instr.slice,Option.map_none,hbd,run_sizeOf hn,Sem.run_pure]
         rw[ha0,hb0];simp
     ·
      rename_i m
      split at h1
      ·rename_i hmm
       obtain⟨hmb,hsome⟩:=hmm
       cases h1
       generalize hu:ρ x=u at hV
       cases hV with
       | @sl _ _ _ _ _ cap _ r g1 g2 g3 g4 g5 g6 g7 g8 g9=>
        have hbd:=zaz (P:=P) (isSlice:=true) (len:=len) (cap:=cap) (k1:=k1) (k2:=k2) (k3:=k3) (m:=m) q1 q2 (by omega) hmb hsome w
        have hab:(a.getD 0).toNat<=(b.getD len).toNat:=by omega
        have hbl:(b.getD len).toNat<=len:=by omega
        have hm1:(a.getD 0).toNat*n<=(b.getD len).toNat*n:=Nat.mul_le_mul_right _ hab
        have hm2:(b.getD len).toNat*n<=len*n:=Nat.mul_le_mul_right _ hbl
        have hm3:len*n<=cap*n:=Nat.mul_le_mul_right _ g4
        refine fin (u:=.slice (some (if(b.getD len).toNat=(a.getD 0).toNat then⟨r.b,off+r.sh-r.lo,none⟩ else⟨r.b,off+r.sh-r.lo+(a.getD 0).toNat*n,none⟩)) ((b.getD len).toNat-(a.getD 0).toNat) ((b.getD len).toNat-(a.getD 0).toNat)) ?_ ?_
        ·by_cases hz:(b.getD len).toNat=(a.getD 0).toNat
         ·rw[if_pos hz,show(b.getD len).toNat-(a.getD 0).toNat=0 from by omega]
          exact .sl0 g1 (by omega) (by omega) (fun hc=>by cases hc) g9
         ·rw[if_neg hz]
          have:off+r.sh-r.lo+(a.getD 0).toNat*n=off+(a.getD 0).toNat*n+r.sh-r.lo:=by omega
          rw[this]
          refine .sl g1 (by omega) ?_ (Nat.le_refl _) ?_ (fun _=>rfl) (fun hc=>by cases hc) (by omega) g9
          ·rw[Nat.sub_mul];omega
          ·rw[Nat.sub_mul];omega
        ·rw[hu]
         simp only[Instr.sliceAt,Sem.run_bind,run_underlying hd,Result.andThen_ok,Instr.slice,hbd,run_sizeOf hn,Sem.run_pure]
         split<;>simp [Addr.add_lit]
       | @sl0 _ _ _ _ o _ r g1 g2 g3 g6 g9=>
        have ha0:a.getD 0=0:=by omega
        have hb0:b.getD ((0:Nat):Int)=0:=by omega
        have hbd:=zaz (P:=P) (isSlice:=true) (len:=0) (cap:=0) (k1:=k1) (k2:=k2) (k3:=k3) (m:=m) q1 q2 (by omega) hmb hsome w
        refine fin (u:=.slice (some o) 0 0) ?_ ?_
        ·rw[ha0,hb0];simp;exact .sl0 g1 g2 g3 (fun hc=>by cases hc) g9
        ·rw[hu]
         simp only[Instr.sliceAt,Sem.run_bind,run_underlying hd,Result.andThen_ok,Instr.slice,hbd,run_sizeOf hn,Sem.run_pure]
         rw[ha0,hb0];simp
      ·cases h1
    ·cases h1
   ·cases h1
  ·
   rename_i n el loc off ver lim hd
   split at h1
   ·rename_i z cells v2 m2 tt2 hz hb2
    simp only at h1
    split at h1
    ·rename_i hq
     obtain⟨q0,q1,q2,q3,rfl,q4,q5,q6⟩:=hq
     cases h1
     obtain rfl:c=none:=by simpa using q0
     generalize hu:ρ x=u at hV
     cases hV with
     | @ptr _ _ _ _ r g1 g2 g3=>
      obtain⟨bb,vs,hb,hg,hv,hR⟩:=hr.get g1
      rw[hb2] at hb;cases hb
      rcases hR with rfl|hR
      ·simp at hv
      have ht:=(hR.tip r hv).1
      obtain⟨_,_,_,_,_,hsz,htop,_⟩:=hR.cell 0 r hv (hR.jm)
      have hs0:=hR.sh0 0 r hv
      have hbd:=j5 (P:=P) (isSlice:=false) (len:=n) (cap:=n) (k1:=k1) (k2:=k2) q1 q2 q3 w
      have hab:(a.getD 0).toNat<=(b.getD n).toNat:=by omega
      have hbl:(b.getD n).toNat<=n:=by omega
      have hm1:(a.getD 0).toNat*(z+1)<=(b.getD n).toNat*(z+1):=Nat.mul_le_mul_right _ hab
      have hm2:(b.getD n).toNat*(z+1)<=n*(z+1):=Nat.mul_le_mul_right _ hbl
      refine fin (u:=.slice (some (if n=(a.getD 0).toNat then⟨r.b,off+r.sh-r.lo,none⟩ else⟨r.b,off+r.sh-r.lo+(a.getD 0).toNat*(z+1),none⟩)) ((b.getD n).toNat-(a.getD 0).toNat) (n-(a.getD 0).toNat)) ?_ ?_
      ·by_cases hz:n=(a.getD 0).toNat
       ·rw[if_pos hz,show(b.getD n).toNat-(a.getD 0).toNat=0 from by omega,show n-(a.getD 0).toNat=0 from by omega]
        exact .sl0 g1 (by omega) (by omega) (fun hc=>by rw[<- hz];omega) (by omega)
       ·rw[if_neg hz]
        have:off+r.sh-r.lo+(a.getD 0).toNat*(z+1)=off+(a.getD 0).toNat*(z+1)+r.sh-r.lo:=by omega
        rw[this]
        refine .sl g1 (by omega) ?_ (by omega) ?_ (fun hc=>by cases hc) (fun hc=>?_) (by simp only[maxLen];omega) (by omega)
        ·rw[Nat.sub_mul];omega
        ·rw[Nat.sub_mul];omega
        ·rw[Nat.sub_mul];omega
      ·rw[hu]
       simp only[Instr.sliceAt,Sem.run_bind,run_underlying hd,Result.andThen_ok,Instr.sureAddr,Option.map_none,hbd,run_sizeOf hz,Sem.run_pure]
       split<;>simp [Addr.add_lit]
    ·cases h1
   ·cases h1
  ·cases h1
 ·cases hm
theorem zpO{t:TypeId}{x:Operand}(hr:HR G B h w)(he:∀ x v,e x=some v->V G v (ρ x))(hm:mop P e h (.load t x)=some r):ROk P G B w (.load t x) ρ r:=by
 simp only[mop] at hm
 split at hm
 ·rename_i loc off ver lim n hx ha hs
  split at hm
  ·rename_i cs hrd
   cases hm
   have hV:=he _ _ hx
   generalize hu:ρ x=u at hV
   cases hV with
   |ptr g1 g2 g3=>
    obtain⟨us,h1,h2,h3⟩:=zD hr hrd g1 g2 g3
    refine ROk.quiet hr (.agg h1) ?_
    intros
    simp only[execOp,hu,Sem.run_bind,zkF (cs:=us) (kd ha) (by rw[h2];exact run_sizeOf hs) (fun j hj=>by rw[List.getElem?_eq_getElem hj];exact h3 _ _ (List.getElem?_eq_getElem hj)),Result.andThen_ok,Sem.run_pure]
  ·cases hm
 ·rename_i loc off ver lim hx ha
  split at hm
  ·rename_i v hrd
   cases hm
   have hV:=he _ _ hx
   generalize hu:ρ x=u at hV
   cases hV with
   |ptr g1 g2 g3=>
    obtain⟨us,h1,h2,h3⟩:=zD hr hrd g1 g2 g3
    obtain⟨y,rfl⟩:=List.length_eq_one_iff.1 h2
    cases h1 with
    |cons h1 _=>
     refine ROk.quiet hr h1 ?_
     intros
     have h4:=h3 0 y rfl
     rw[Nat.add_zero] at h4
     simp only[execOp,hu,Sem.run_bind,zkE (kd ha) h4,Result.andThen_ok,Sem.run_pure]
  ·cases hm
 ·cases hm
theorem zoE{t:TypeId}{a x:Operand}(hr:HR G B h w)(he:∀ x v,e x=some v->V G v (ρ x))(hm:mop P e h (.store t a x)=some r):ROk P G B w (.store t a x) ρ r:=by
 simp only[mop] at hm
 split at hm
 ·rename_i loc off ver lim v n ha hx hs
  split at hm
  ·rename_i hn
   obtain⟨h',hw,rfl⟩:=zgZ hm
   have hV:=he _ _ ha
   have hX:=(he _ _ hx).cells
   generalize hu:ρ a=u at hV
   cases hV with
   |ptr g1 g2 g3=>
    obtain⟨w',hrun,hS⟩:=zcy (P:=P) hr hw g1 g2 g3 hX
    refine⟨w',G,?_,hS⟩
    intros
    have hsz:(ρ x).cells.size=n:=by rw[<- Array.length_toList,hX.length];exact hn
    simp [execOp,hu,Instr.storeAt,Instr.sureAddr,storeVar,run_sizeOf hs,hsz,hrun]
  ·cases hm
 ·cases hm
theorem zbS{v:AV}{u:Value}{T:TypeId}(hr:HR G B h w)(hv:V G v u):∃ G',Step G G' B (w9 h v.cells T) w (w.alloc (.cells u.cells T))/\V G' (.ptr h.length 0 0 v.cells.length) (.pointer (some ⟨w.heap.size,0,none⟩)):=by
 have hS:=Step.newRow (c:=u.cells) (T:=T) (w':=w.alloc (.cells u.cells T)) hr hv.cells (fun p hp=>by rw[Array.getElem?_toList])
  (heap_alloc_new w _) (by simp) (fun b hb=>(xw.alloc [] w _).block b hb (by simp)) rfl rfl rfl
 refine⟨_,hS,?_⟩
 rw[<- hr.len]
 exact .ptr (r:=⟨w.heap.size,0,v.cells.length,_,0⟩) (by rw[jz];rfl) (Nat.le_refl _) (Nat.le_refl _)
theorem zov{t:TypeId}(hr:HR G B h w)(hm:mop P e h (.alloc t)=some r):ROk P G B w (.alloc t) ρ r:=by
 simp only[mop] at hm
 split at hm
 ·rename_i z hz
  cases hm
  obtain⟨u,hrun,hv,_⟩:=jv G hz
  obtain⟨G',hS,hV⟩:=zbS (T:=t) hr hv
  refine⟨_,_,G',?_,hS,hV⟩
  intros
  simp [execOp,Instr.alloc,newVar,newRow,hrun]
 ·cases hm
theorem zq2{t:TypeId}{x:Operand}(hr:HR G B h w)(he:∀ x v,e x=some v->V G v (ρ x))(hm:mop P e h (.box t x)=some r):ROk P G B w (.box t x) ρ r:=by
 simp only[mop] at hm
 split at hm
 ·rename_i v hx
  cases hm
  obtain⟨G',hS,hV⟩:=zbS (T:=t) hr (he _ _ hx)
  refine⟨_,_,G',?_,hS,hV⟩
  intros
  simp [execOp,Instr.box,newVar,newRow]
 ·cases hm
end
section
variable {P:Program} {G:Gh} {B:Nat} {h:za} {w:World} {op:Op} {ρ:Operand->Value} {e:Operand->Option AV} {r:Rs}
theorem zbL(off:Nat):∀ (l:List Value) (k:Nat) (cells:Array Value),off+k+l.length<=cells.size ->
  ((l.zipIdx k).foldl (fun cs (p:Value×Nat)=>cs.setIfInBounds (off+p.2) p.1) cells).toList=cells.toList.take (off+k)++l++cells.toList.drop (off+k+l.length)
 | [],k,cells,_=>by simp
 |v::l,k,cells,hl=>by
  simp only[List.zipIdx_cons,List.foldl_cons]
  rw[zbL off l (k+1) _ (by simp at hl |-;omega)]
  simp only[List.length_cons] at hl |-
  rw[Array.toList_setIfInBounds,show off+(k+1)=off+k+1 from by omega,List.take_add_one,List.take_set_of_le (by omega),List.getElem?_set_self (by simp;omega),List.drop_set_of_lt (by omega)]
  simp;congr 1;omega
theorem xy{place:Nat->Option (Nat×Nat)}:∀ {parts:List (Nat×AV)} {cells cells':List AV} {us:List Value} {vs:List Value},zbr place cells parts=some cells'->VL G cells us->VL G (parts.map (·.2)) vs ->
  ∃ us',Instr.fill place us.toArray ((parts.map (·.1)).zip vs)=some us'.toArray/\VL G cells' us'
 | [],cells,cells',us,vs,h,hx,hp=>by
  cases h
  exact⟨us,by simp [Instr.fill],hx⟩
 |(i,v)::rest,cells,cells',us,vs,h,hx,hp=>by
  cases hp with
  | @cons _ u _ us2 hv ht=>
  unfold zbr at h
  split at h
  ·cases h
  ·rename_i off size hpl
   split at h
   ·rename_i hc
    obtain⟨hc1,hc2⟩:=hc
    have hcells:=hv.cells
    have hcl:=hcells.length
    have hul:=hx.length
    have hsz:u.cells.size=size:=by rw[<- Array.length_toList,hcl];exact hc1
    obtain⟨us',h1,h2⟩:=xy h (((hx.take off).append hcells).append (hx.drop (off+size))) ht
    refine⟨us',?_,h2⟩
    simp only[List.map_cons,List.zip_cons_cons,Instr.fill,hpl]
    rw[if_neg (by simp [hsz];omega)]
    rw[<- h1]
    congr 1
    apply Array.ext'
    rw[<- Array.foldl_toList,Array.toList_zipIdx]
    have:=zbL off u.cells.toList 0 us.toArray (by simp [hsz];omega)
    simp only[Nat.add_zero,Array.length_toList,hsz] at this
    rw[this]
   ·cases h
theorem zbT:∀ {fs:List Field} {ps:List (Nat×Nat)},zcX P fs=some ps->∀ w,(fs.mapM fun f=>(do pure (f.offset,<- sizeOf f.type):Sem (Nat×Nat))).run P w=.ok ps w
 | [],_,h,w=>by cases h;rfl
 |f::fs,ps,h,w=>by
  unfold zcX at h
  split at h
  ·rename_i n ps' h1 h2
   cases h
   simp only[List.mapM_cons,Sem.run_bind,run_sizeOf h1,Result.andThen_ok,Sem.run_pure,zbT h2 w]
  ·cases h
theorem zbv:∀ {ps:List (Nat×AV)} {l:List (Nat×Operand)},ps.map (·.1)=l.map (·.1)->(ps.map (·.1)).zip (l.map fun p=>ρ p.2)=l.map fun p=>(p.1,ρ p.2)
 | [],[],_=>rfl
 | [],_::_,h=>by simp at h
 |_::_,[],h=>by simp at h
 |p::ps,q::l,h=>by
  simp only[List.map_cons,List.cons.injEq] at h
  simp only[List.map_cons,List.zip_cons_cons,h.1,zbv h.2]
theorem zox{t:TypeId}{parts:Array (Nat×Operand)}(hr:HR G B h w)(he:∀ x v,e x=some v->V G v (ρ x))(hm:mop P e h (.build t parts)=some r):ROk P G B w (.build t parts) ρ r:=by
 simp only[mop] at hm
 split at hm
 ·rename_i ps hps
  obtain⟨v,h1,rfl⟩:=qB hm
  obtain⟨hp1,hp2⟩:=xg he hps
  have hzip:=zbv (ρ:=ρ) hp1
  have hparts:(parts.map fun(i,x)=>(i,ρ x)).toList=parts.toList.map fun p=>(p.1,ρ p.2):=by simp
  unfold zhP at h1
  split at h1
  ·rename_i z fs hz hd
   split at h1
   ·rename_i pl hpl
    split at h1
    ·rename_i cs hf
     cases h1
     obtain⟨zu,hzr,hzv,_⟩:=jv G hz
     obtain⟨us',hfu,hvu⟩:=xy hf hzv.cells hp2
     refine ROk.quiet hr (.agg hvu) ?_
     intros
     have hmap:((fs.mapM fun f=>(do pure (f.offset,<- sizeOf f.type):Sem (Nat×Nat))).run P w)=.ok pl.toArray w:=by
      rw[Array.mapM_eq_mapM_toList,Sem.run_map,zbT hpl];rfl
     simp only[execOp,Instr.build,Sem.run_bind,hzr,Result.andThen_ok,run_underlying hd,hmap,hparts]
     rw[hzip] at hfu
     have:Instr.fill (fun x=>pl.toArray[x]?) zu.cells (parts.toList.map fun p=>(p.1,ρ p.2))=some us'.toArray:=by
      rw[<- hfu];simp
     rw[this];rfl
    ·cases h1
   ·cases h1
  ·rename_i z len el hz hd
   split at h1
   ·rename_i n hn
    split at h1
    ·rename_i cs hf
     cases h1
     obtain⟨zu,hzr,hzv,_⟩:=jv G hz
     obtain⟨us',hfu,hvu⟩:=xy hf hzv.cells hp2
     refine ROk.quiet hr (.agg hvu) ?_
     intros
     simp only[execOp,Instr.build,Sem.run_bind,hzr,Result.andThen_ok,run_underlying hd,run_sizeOf hn,hparts]
     rw[hzip] at hfu
     have:Instr.fill (fun i=>some (i*n,n)) zu.cells (parts.toList.map fun p=>(p.1,ρ p.2))=some us'.toArray:=by
      rw[<- hfu]
     rw[this];rfl
    ·cases h1
   ·cases h1
  ·cases h1
 ·cases hm
theorem zaE{z:List AV}{zu:Array Value}{m:Nat}(hz:VL G z zu.toList)(hpos:0<z.length):VL G (zY z m) ((Array.range m).map fun i=>zu[i % zu.size]!).toList:=by
 have hl:=hz.length
 rw[Array.length_toList] at hl
 refine VL.za2 (by simp [zY]) fun i x u hx hu=>?_
 unfold zY at hx
 rw[List.getElem?_map] at hx
 rw[Array.getElem?_toList,Array.getElem?_map] at hu
 by_cases hi:i<m
 ·rw[List.getElem?_range hi] at hx
  simp [hi] at hx hu
  have hmod:i % z.length<z.length:=Nat.mod_lt _ hpos
  obtain⟨u',h1,h2⟩:=hz.get (List.getElem?_eq_getElem hmod)
  rw[Array.getElem?_toList] at h1
  rw[<- hl] at h1
  have hm2:i % zu.size<zu.size:=Nat.mod_lt _ (by omega)
  rw[Array.getElem?_eq_getElem hm2] at h1
  cases h1
  rw[List.getElem?_eq_getElem hmod] at hx
  simp at hx
  subst hx
  rw[getElem!_pos zu _ hm2] at hu
  subst hu
  exact h2
 ·simp [hi] at hu
theorem zfx{place:Nat->Option (Nat×Nat)}{parts:List (Nat×AV)}{cells cells':List AV}(h:zbr place cells parts=some cells'):cells'.length=cells.length:=by
 induction parts generalizing cells cells' with
 |nil=>cases h;rfl
 |cons p parts ih=>
  unfold zbr at h
  split at h
  ·cases h
  ·split at h
   ·rename_i hq
    rw[ih h]
    simp only[List.length_append,List.length_take,List.length_drop];omega
   ·cases h
theorem ze4{t el:TypeId}{len n:Nat}{z:AV}{parts:Array (Nat×Operand)}{ps:List (Nat×AV)}{cs:List AV}(he:∀ x v,e x=some v->V G v (ρ x))(hps:qH e parts.toList=some ps)(hd:P.underlying t=some (.slice el))(hn:wI P el=some (n+1))(hz:zeroOf P el=some z)
  (hc1:len*(n+1)<=2 ^ 24) (hc2:z.cells.length=n+1) (hf:zbr (fun i=>some (i*(n+1),n+1)) (zY z.cells (len*(n+1))) ps=some cs):
  ∃ us':List Value,VL G cs us'/\cs.length=len*(n+1)/\∀ dst ty pos after g,(execOp ρ ⟨dst,.buildSlice t len parts,ty,pos,after,g⟩).run P w=.ok (.value (.slice (some ⟨w.heap.size,0,none⟩) len len)) (w.alloc (.cells us'.toArray el)):=by
 obtain⟨hp1,hp2⟩:=xg he hps
 have hzip:=zbv (ρ:=ρ) hp1
 have hparts:(parts.map fun(i,x)=>(i,ρ x)).toList=parts.toList.map fun p=>(p.1,ρ p.2):=by simp
 obtain⟨zu,hzr,hzv,_⟩:=jv (P:=P) G hz
 obtain⟨us',hfu,hvu⟩:=xy hf (zaE (m:=len*(n+1)) hzv.cells (by omega)) hp2
 refine⟨us',hvu,by rw[zfx hf];simp [zY],?_⟩
 intros
 rw[hzip] at hfu
 have hfl:Instr.fill (fun i=>some (i*(n+1),n+1)) ((Array.range (len*(n+1))).map (fun i=>zu.cells[i % zu.cells.size]!)) (parts.toList.map fun p=>(p.1,ρ p.2))=some us'.toArray:=by
  rw[<- hfu]
 have hrun:(Instr.buildSlice t len (parts.map fun(i,x)=>(i,ρ x))).run P w=.ok (.slice (some ⟨w.heap.size,0,none⟩) len len) (w.alloc (.cells us'.toArray el)):=by
  unfold Instr.buildSlice
  simp only[Sem.run_bind,run_underlying hd,Result.andThen_ok,run_sizeOf hn,hparts,Nat.succ_eq_add_one,gt_iff_lt]
  rw[if_neg (by omega)]
  by_cases h0:len*(n+1)=0
  ·rw[h0] at hfl
   have h00:((Array.range 0).map (fun x=>(#[]:Array Value)[x % (#[]:Array Value).size]!))=(Array.range 0).map (fun i=>zu.cells[i % zu.cells.size]!):=by simp
   simp only[h0,if_true,Sem.run_bind,Sem.run_pure,Result.andThen_ok,h00,hfl]
   simp [newRow]
  ·simp only[if_neg h0,Sem.run_bind,Sem.run_pure,Result.andThen_ok,hzr,hfl]
   simp [newRow]
 simp only[execOp,Sem.run_bind,hrun,Result.andThen_ok,Sem.run_pure]
theorem zfV{t:TypeId}{len:Nat}{parts:Array (Nat×Operand)}(hr:HR G B h w)(he:∀ x v,e x=some v->V G v (ρ x))(hm:mop P e h (.buildSlice t len parts)=some r):ROk P G B w (.buildSlice t len parts) ρ r:=by
 simp only[mop] at hm
 split at hm
 ·rename_i ps hps
  obtain⟨v,h',h1,rfl⟩:=kH hm
  unfold jk at h1
  split at h1
  ·rename_i el hd
   split at h1
   ·rename_i n z hn hz
    split at h1
    ·rename_i hc
     obtain⟨hc1,hc2⟩:=hc
     split at h1
     ·rename_i cs hf
      cases h1
      obtain⟨us',hvu,hcl,hrun⟩:=ze4 (w:=w) he hps hd hn hz hc1 hc2 hf
      have hS:=Step.newRow (c:=us'.toArray) (T:=el) (w':=w.alloc (.cells us'.toArray el)) hr hvu (fun p hp=>by rw[List.getElem?_toArray])
       (heap_alloc_new w _) (by simp) (fun b hb=>(xw.alloc [] w _).block b hb (by simp)) rfl rfl rfl
      refine⟨_,.slice (some ⟨w.heap.size,0,none⟩) len len,_,hrun,hS,?_⟩
      rw[<- hr.len]
      exact .sl (r:=⟨w.heap.size,0,cs.length,_,0⟩) (by rw[jz];rfl) (Nat.le_refl _) (by simp [hcl]) (Nat.le_refl _) (by simp;rw[hvu.length,hcl];exact Nat.le_refl _) (fun e=>by cases e) (fun _=>by simp [hcl]) (by have:len<=len*(n+1):=Nat.le_mul_of_pos_right _ (by omega);simp only[maxLen];omega) (by omega)
     ·cases h1
    ·cases h1
   ·cases h1
  ·cases h1
 ·cases hm
theorem zg3{t:TypeId}{l c:Operand}(hr:HR G B h w)(he:∀ x v,e x=some v->V G v (ρ x))(hm:mop P e h (.makeSlice t l c)=some r):ROk P G B w (.makeSlice t l c) ρ r:=by
 simp only[mop] at hm
 split at hm
 ·rename_i a b ha hb
  obtain⟨v,h',h1,rfl⟩:=kH hm
  unfold zbt at h1
  split at h1
  ·rename_i el k1 lv k2 cv hd
   split at h1
   ·rename_i i z hi hz
    split at h1
    ·rename_i hc
     obtain⟨c1,c2,c3,c4,c5,c6⟩:=hc
     cases h1
     obtain⟨zu,hzr,hzv,i',hi',hzi⟩:=jv G hz
     have hL:=qV (he _ _ ha)
     have hCv:=qV (he _ _ hb)
     obtain⟨ln,rfl⟩:=Int.eq_ofNat_of_zero_le c1
     obtain⟨cn,rfl⟩:=Int.eq_ofNat_of_zero_le (Int.le_trans c1 c2)
     have hlc:ln<=cn:=by omega
     have hcm:cn<549755813888:=by omega
     have hby:(i.bytes:Int)*(cn:Int)<=281474976710656:=by
      have h2:i.bytes*cn<=256*549755813888:=Nat.mul_le_mul c4 (by omega)
      have h3:((i.bytes*cn:Nat):Int)<=281474976710656:=by omega
      rwa [Int.natCast_mul] at h3
     have hrun:=run_make (P:=P) w t el i zu hd hi (by rw[hi] at hi';cases hi';exact hzi) k1 k2 (ln:Int) (cn:Int) c1 c2 hby (by omega)
     simp only[Int.toNat_natCast] at hrun |-
     have hzs:=zaE (m:=cn*i.size) hzv.cells (by omega)
     have hmc:((Array.range (cn*i.size)).map fun j=>zu.cells[j % zu.cells.size]!)=madeCells zu.cells (cn*i.size):=rfl
     rw[hmc] at hzs
     have hk1:=zl4 ln cn
     have hk2:=zl5 hlc
     generalize zgP ln cn=kn at hk1 hk2 |-
     have hpre:VL G (zY z.cells (kn*i.size)) ((madeCells zu.cells (cn*i.size)).toList.take (kn*i.size)):=by
      have:=hzs.take (kn*i.size)
      rwa [show(zY z.cells (cn*i.size)).take (kn*i.size)=zY z.cells (kn*i.size) from by
       unfold zY
       rw[<- List.map_take,List.take_range,Nat.min_eq_left (Nat.mul_le_mul_right _ hk2)]] at this
     have hml:(zY z.cells (kn*i.size)).length=kn*i.size:=by simp [zY]
     have hmk:=Nat.mul_le_mul_right i.size hk1
     have hmk2:=Nat.mul_le_mul_right i.size hk2
     have hms:(madeCells zu.cells (cn*i.size)).size=cn*i.size:=size_madeCells _ _
     have hS:=Step.newRow (c:=madeCells zu.cells (cn*i.size)) (T:=el) (w':=w.alloc (.cells (madeCells zu.cells (cn*i.size)) el)) hr hpre
      (fun p hp=>by rw[List.getElem?_take_of_lt (by omega),Array.getElem?_toList])
      (heap_alloc_new w _) (by simp) (fun b hb=>(xw.alloc [] w _).block b hb (by simp)) rfl rfl rfl
     refine⟨_,.slice (some ⟨w.heap.size,0,none⟩) ln cn,_,?_,hS,?_⟩
     ·intros
      simp only[execOp,hL,hCv,Sem.run_bind,hrun,Result.andThen_ok,Sem.run_pure]
     ·rw[<- hr.len]
      have hmm:=Nat.mul_le_mul_right i.size hlc
      exact .sl (r:=⟨w.heap.size,0,(zY z.cells (kn*i.size)).length,_,0⟩) (by rw[jz];rfl) (Nat.le_refl _) (by simp only[hml];omega) hlc (by simp only[hms];omega) (fun e=>by cases e) (fun _=>by simp only[hml];omega) (by simp only[maxLen];omega) c5
    ·cases h1
   ·cases h1
  ·cases h1
 ·cases hm
end
section
variable {P:Program} {G:Gh} {B:Nat} {h h':za} {w:World} {op:Op} {ρ:Operand->Value} {e:Operand->Option AV} {r:Rs}
theorem zcl(G:Gh):∀ l:List UInt8,VL G (l.map qq) (l.map fun c=>Value.int .u8 (c.toNat:Int))
 | []=>.nil
 |c::l=>.cons (.int _ _) (zcl G l)
theorem zW:∀ {cs:List AV} {l:List UInt8} {us:List Value},wH cs=some l->VL G cs us->us=l.map fun c=>Value.int .u8 (c.toNat:Int)
 | [],l,us,h,hx=>by cases h;cases hx;rfl
 |x::cs,l,us,h,hx=>by
  unfold wH at h
  split at h
  ·rename_i b bs h1 h2
   cases h
   cases hx with
   |cons hv ht=>
    rw[zW h2 ht]
    unfold toByte at h1
    split at h1
    ·split at h1
     ·rename_i n hn
      cases h1
      rw[qV hv]
      simp
      omega
     ·cases h1
    ·cases h1
  ·cases h
theorem zbM{a:Addr}{m k:Nat}(h:k≠a.block):(w.freeze a m).heap[k]?=w.heap[k]?:=by
 unfold World.freeze
 split
 ·rfl
 ·simp [Array.getElem?_modify,Ne.symm h]
theorem zgs{b o m:Nat}{c:Array Value}{T:TypeId}{fr:Nat×Nat}(hm:0<m)(h:w.heap[b]?=some (.cells c T fr)):
  (w.freeze ⟨b,o,none⟩ m).heap[b]?=some (.cells c T (if fr.1=fr.2 then(o,o+m) else(min fr.1 o,max fr.2 (o+m)))):=by
 unfold World.freeze
 rw[if_neg (by omega)]
 simp [Array.getElem?_modify,h]
theorem zgt{a:Addr}{m:Nat}:(w.freeze a m).heap.size=w.heap.size:=by
 unfold World.freeze
 split<;>simp
theorem zcM{a:Addr}{m:Nat}:(w.freeze a m).os=w.os/\(w.freeze a m).tape=w.tape/\(w.freeze a m).output=w.output:=by
 unfold World.freeze
 split<;>exact⟨rfl,rfl,rfl⟩
theorem ziM{cells:List AV}{ver minv frz frz' b:Nat}{tt tt':Option TypeId}{vs:List Ver}{c:Array Value}{T:TypeId}{fr fr':Nat×Nat}{w':World}
  (hR:zlK G w cells ver minv frz tt vs) (hb:w.heap[b]?=some (.cells c T fr)) (hb':w'.heap[b]?=some (.cells c T fr')) (ho:∀ k,k≠b->w'.heap[k]?=w.heap[k]?) (hf:fr'.1<=fr'.2) (hle:frz<=frz') (hl:frz'<=cells.length)
  (ht:∀ t,tt'=some t->tt=some t) (hc:∀ r,vs[ver]?=some r->r.b=b->(∀ j,frz'<=j+r.lo->j<c.size->¬ (fr'.1<=j/\j<fr'.2))/\(tt'.isSome=true->fr'.1=fr'.2\/fr'.2+r.lo<=frz')):zlK G w' cells ver minv frz' tt' vs:=by
 have hti:tt'.isSome=true->tt.isSome=true:=fun e=>by
  obtain⟨t,e⟩:=Option.isSome_iff_exists.1 e
  rw[ht t e];rfl
 refine⟨hR.len,fun v r hv hm=>?_,fun r hv=>?_,hR.zlq,hR.same,hR.jm,hR.sh0,hl⟩
 ·obtain⟨c0,T0,fr0,q1,qt,q2,q3,q4⟩:=hR.cell v r hv hm
  by_cases h:r.b=b
  ·rw[h,hb] at q1
   cases q1
   exact⟨c,T,fr',by rw[h];exact hb',fun t e=>qt t (ht t e),q2,q3,q4⟩
  ·exact⟨c0,T0,fr0,by rw[ho _ h];exact q1,fun t e=>qt t (ht t e),q2,q3,q4⟩
 ·obtain⟨ht,c0,T0,fr0,q5,q6,q7,q8⟩:=hR.tip r hv
  by_cases h:r.b=b
  ·rw[h,hb] at q5
   cases q5
   obtain⟨g1,g2⟩:=hc r hv h
   exact⟨ht,c,T,fr',by rw[h];exact hb',hf,g1,g2⟩
  ·refine⟨ht,c0,T0,fr0,by rw[ho _ h];exact q5,q6,(fun j hj hjc=>q7 j (by omega) hjc),fun e=>?_⟩
   rcases q8 (hti e) with q|q
   ·exact .inl q
   ·exact .inr (by omega)
theorem Step.freeze{loc v frz' m o:Nat}{cells:List AV}{ver minv frz:Nat}{tt tt':Option TypeId}{r:Ver}(hr:HR G B h w)(hl:h[loc]?=some (.row cells ver minv frz false tt))(hg:G.at loc v=some r)(hmv:minv<=v)(hm:0<m)
  (hle:frz<=frz') (hcl:frz'<=cells.length) (ht:∀ t,tt'=some t->tt=some t)
  (hc:∀ (c:Array Value) (T:TypeId) (fr:Nat×Nat) (rt:Ver),w.heap[r.b]?=some (.cells c T fr)->G.at loc ver=some rt->rt.b=r.b->c.size=r.size->fr.1<=fr.2->(∀ j,frz<=j+rt.lo->j<c.size->¬ (fr.1<=j/\j<fr.2))->(tt.isSome=true->fr.1=fr.2\/fr.2+rt.lo<=frz) ->
   (∀ j,frz'<=j+rt.lo->j<c.size->¬ ((if fr.1=fr.2 then(o,o+m) else(min fr.1 o,max fr.2 (o+m))).1<=j/\j<(if fr.1=fr.2 then(o,o+m) else(min fr.1 o,max fr.2 (o+m))).2)) /\
   (tt'.isSome=true->(if fr.1=fr.2 then(o,o+m) else(min fr.1 o,max fr.2 (o+m))).1=(if fr.1=fr.2 then(o,o+m) else(min fr.1 o,max fr.2 (o+m))).2\/(if fr.1=fr.2 then(o,o+m) else(min fr.1 o,max fr.2 (o+m))).2+rt.lo<=frz')):
  Step G G B (h.set loc (.row cells ver minv frz' false tt')) w (w.freeze ⟨r.b,o,none⟩ m):=by
 obtain⟨b0,vs,hb,hgv,hv,hR⟩:=hr.get hg
 rw[hl] at hb;cases hb
 rcases hR with rfl|hR
 ·simp at hv
 obtain⟨c,T,fr,q1,qt,q2,q3,q4⟩:=hR.cell v r hv hmv
 have hb':=zgs (o:=o) hm q1
 have hf:(if fr.1=fr.2 then(o,o+m) else(min fr.1 o,max fr.2 (o+m))).1<=(if fr.1=fr.2 then(o,o+m) else(min fr.1 o,max fr.2 (o+m))).2:=by
  split
  ·show o<=o+m;omega
  ·show min fr.1 o<=max fr.2 (o+m);omega
 have hS:=Step.upd (vs':=vs) (blk':=.row cells ver minv frz' false tt') (w':=w.freeze ⟨r.b,o,none⟩ m) hr hl hgv rfl rfl ⟨v,r,hv,rfl⟩ (by rw[zgt];exact Nat.le_refl _) (fun k _ hk=>zbM hk) zcM.1 zcM.2.1 zcM.2.2 (fun _ _ h=>h) (fun v r' h=>.inr ⟨v,r',h,rfl⟩)
  (fun _=>Or.inr (by
   rw[qJ hgv]
   refine ziM hR q1 hb' (fun k hk=>zbM hk) hf hle hcl ht fun rt hrt hrb=>?_
   obtain⟨_,c1,T1,fr1,q5,q6,q7,q8⟩:=hR.tip rt hrt
   rw[hrb,q1] at q5;cases q5
   exact hc c T fr rt q1 (Gh.kk hgv hrt) hrb q2 q6 q7 q8))
 rw[qJ hgv] at hS
 exact hS
theorem zjY{u count n:Nat}(h0:0<P.cellsOf u)(hn:n<=count):liesAt P P.depth u count 0 u n=true:=by
 have hd:P.depth=2*(P.types.size+Made.depth)+1+1:=rfl
 have hs:∀ d,sameLayout P (d+1) u u=true:=fun d=>by unfold sameLayout;simp
 have hrow:rowAt P (fun t=>sameLayout P P.depth t u) P.depth u count 0 n=true:=by
  rw[hd]
  unfold rowAt
  have h1:¬ P.cellsOf u=0:=by omega
  simp only[h1,if_false,Nat.zero_div,Nat.zero_mod,hs]
  simp [hn]
 rw[hd]
 unfold liesAt
 rw[hrow]
 rfl
theorem zfM{loc off ver lim minv vr frz:Nat}{cells:List AV}{ro:Bool}{tt:Option TypeId}{u:Value}(hr:HR G B h w)(hl:h[loc]?=some (.row cells vr minv frz ro tt))(hm:minv<=ver)(hV:V G (.ptr loc off ver lim) u):
  ∃ r c T fr,G.at loc ver=some r/\r.lo<=off/\lim<=r.top/\u=.pointer (some ⟨r.b,off+r.sh-r.lo,none⟩)/\w.heap[r.b]?=some (.cells c T fr)/\(∀ t,tt=some t->T=t)/\c.size=r.size/\r.top<=r.lo+r.size/\r.sh=0:=by
 cases hV with
 | @ptr _ _ _ _ r g1 g2 g3=>
  obtain⟨b0,vs,hb,hgv,hv,hR⟩:=hr.get g1
  rw[hl] at hb;cases hb
  rcases hR with rfl|hR
  ·simp at hv
  obtain⟨c,T,fr,q1,qt,q2,q3,_⟩:=hR.cell ver r hv hm
  exact⟨r,c,T,fr,g1,g2,g3,rfl,q1,qt,q2,q3,hR.sh0 ver r hv⟩
theorem zkJ{s d:TypeId}{x:Operand}(hr:HR G B h w)(he:∀ x v,e x=some v->V G v (ρ x))(hm:mop P e h (.convert s d x)=some r):ROk P G B w (.convert s d x) ρ r:=by
 simp only[mop] at hm
 split at hm
 ·rename_i a hx
  obtain⟨v,h',h1,rfl⟩:=kH hm
  have hV:=he _ _ hx
  unfold wA at h1
  split at h1
  ·rename_i ds k k' n hs hd
   cases h1
   have hI:=qV hV
   refine ROk.quiet hr (.int _ _) ?_
   intros
   simp only[execOp,hI,Sem.run_bind]
   rw[show(convert s d (.int k' n)).run P w=.ok (.int k (k.wrap n)) w from by simp [convert,run_underlying hs,run_underlying hd,Conv.intToInt]]
   rfl
  ·rename_i ds l hs hd
   cases h1
   have hS:=xP hV
   refine ROk.quiet hr (.str _) ?_
   intros
   simp only[execOp,hS,Sem.run_bind,zbd]
   rw[show(convert s d (.string ⟨l.toArray⟩)).run P w=.ok (.string ⟨l.toArray⟩) w from by cases ds<;>simp [convert,run_underlying hs,run_underlying hd]]
   rfl
  ·rename_i el l hs hd
   split at h1
   ·rename_i hel
    split at h1
    ·rename_i hl
     cases h1
     have hS:=xP hV
     have hrun:(convert s d (zbd l)).run P w=.ok (.slice (some ⟨w.heap.size,0,none⟩) l.length (grownCap w l.length 0 el)) (w.drew.alloc (.cells (bytesRow ⟨l.toArray⟩ (grownCap w l.length 0 el)) el ((bytesRow ⟨l.toArray⟩ (grownCap w l.length 0 el)).size,(bytesRow ⟨l.toArray⟩ (grownCap w l.length 0 el)).size+1))):=by
      have:=run_bytes_of_string (P:=P) w s d el ⟨l.toArray⟩ hs hd hel
      rw[size_mk] at this
      exact this
     have hge:=grownCap_ge w l.length 0 el
     have hgm:=grownCap_le_maxLen w l.length 0 el (by simp only[maxLen];omega)
     have hsz:(bytesRow ⟨l.toArray⟩ (grownCap w l.length 0 el)).size=grownCap w l.length 0 el:=by
      simp only[bytesRow,Array.size_append,Array.size_map,Array.size_replicate,size_mk,List.size_toArray];omega
     have hS2:=Step.zkk (tt:=none) (c:=bytesRow ⟨l.toArray⟩ (grownCap w l.length 0 el)) (T:=el) (fr:=((bytesRow ⟨l.toArray⟩ (grownCap w l.length 0 el)).size,(bytesRow ⟨l.toArray⟩ (grownCap w l.length 0 el)).size+1)) (w':=w.drew.alloc (.cells (bytesRow ⟨l.toArray⟩ (grownCap w l.length 0 el)) el ((bytesRow ⟨l.toArray⟩ (grownCap w l.length 0 el)).size,(bytesRow ⟨l.toArray⟩ (grownCap w l.length 0 el)).size+1)))
      (fun t e=>by cases e) (fun e=>by cases e) hr (zcl G l) (fun p hp=>by
       simp only[List.length_map] at hp
       rw[bytesRow,Array.getElem?_append_left (by simpa using hp)];simp) ⟨by simp,fun j hj q=>by omega⟩
      (heap_alloc_new w.drew _) (by simp) (fun b hb=>(xw.wZ w _).block b hb (by simp)) rfl rfl rfl
     refine⟨_,.slice (some ⟨w.heap.size,0,none⟩) l.length (grownCap w l.length 0 el),_,?_,hS2,?_⟩
     ·intros
      simp only[execOp,hS,Sem.run_bind,hrun,Result.andThen_ok,Sem.run_pure]
     ·rw[<- hr.len]
      exact .sl (r:=⟨w.heap.size,0,(l.map qq).length,_,0⟩) (by rw[jz];rfl) (Nat.le_refl _) (by simp) hge (by simp only[hsz];omega) (fun e=>by cases e) (fun _=>by simp;omega) hgm (by omega)
    ·cases h1
   ·cases h1
  ·rename_i el hs hd
   split at h1
   ·rename_i hel
    cases h1
    generalize hu:ρ x=u at hV
    cases hV
    refine ROk.quiet hr (.str []) ?_
    intros
    simp only[execOp,hu,Sem.run_bind,run_convert_bytes_string w s d el none 0 0 hs hel hd]
    simp [Conv.bytesToString,zbd];rfl
   ·cases h1
  ·rename_i el loc off len ver clip hs hd
   split at h1
   ·rename_i hel
    split at h1
    ·rename_i cs hrd
     split at h1
     ·rename_i l hl
      cases h1
      generalize hu:ρ x=u at hV
      cases hV with
      | @sl _ _ _ _ _ cap _ r g1 g2 g3 g4 g5 g6 g7 g8 g9=>
       obtain⟨us,o1,o2,o3⟩:=zD hr hrd g1 g2 (by omega)
       have hub:=zW hl o1
       have hln:l.length=len:=by rw[<- o2,hub];simp
       refine ROk.quiet hr (.str l) ?_
       intros
       have:=run_convert_bytes_back (P:=P) w s d el ⟨r.b,off+r.sh-r.lo,none⟩ cap l hs hel hd (fun j hj=>by
        rw[Addr.add_lit]
        exact o3 j _ (by rw[hub];simp [hj]))
       rw[hln] at this
       simp only[execOp,hu,Sem.run_bind,this,Result.andThen_ok,Sem.run_pure,zbd]
      | @sl0 _ _ _ _ o _ r g1 g2 g3 g6 g9=>
       obtain⟨us,o1,o2,o3⟩:=zD hr hrd g1 g2 (by omega)
       have hub:=zW hl o1
       obtain rfl:l=[]:=by
        have:us=[]:=List.eq_nil_of_length_eq_zero o2
        rw[this] at hub
        cases l with
        |nil=>rfl
        |cons=>simp at hub
       refine ROk.quiet hr (.str []) ?_
       intros
       have:=run_convert_bytes_back (P:=P) w s d el o 0 [] hs hel hd (fun j hj=>by simp at hj)
       simp only[List.length_nil] at this
       simp only[execOp,hu,Sem.run_bind,this,Result.andThen_ok,Sem.run_pure,zbd]
     ·cases h1
    ·cases h1
   ·cases h1
  ·
   rename_i es el loc off len sz ver clip hs hd
   split at h1
   ·rename_i hsd
    subst hsd
    split at h1
    ·rename_i cells vr minv tt hel hl
     split at h1
     ·rename_i hmv
      obtain⟨hmv,hlen0⟩:=hmv
      cases h1
      have key:∀ {a:Addr} {l c v:Nat} {r:Ver},G.at loc v=some r->minv<=v->a.block=r.b->ρ x=.slice (some a) l c->∃ w',(∀ dst ty pos after g,(execOp ρ ⟨dst,.convert s s x,ty,pos,after,g⟩).run P w=.ok (.value (ρ x)) w')/\Step G G B (h.set loc (.row cells vr minv 0 false none)) w w':=by
       intro a l c v r hg hmv hab hu
       obtain⟨b0,vs,hb,hgv,hv,hR⟩:=hr.get hg
       rw[hl] at hb;cases hb
       rcases hR with rfl|hR
       ·simp at hv
       obtain⟨cc,T,fr,q1,qt,q2,q3,q4⟩:=hR.cell v r hv hmv
       have hS:=Step.freeze (v:=v) (frz':=0) (m:=1) (o:=cc.size) hr hl hg hmv (by omega) (Nat.le_refl _) (Nat.zero_le _) (tt':=none) (fun _ e=>by cases e) (fun c2 T2 fr2 rt e1 e2 e3 e4 e5 e6 e7=>by
        rw[q1] at e1;cases e1
        refine⟨fun j _ hj=>?_,fun e=>by cases e⟩
        split
        ·show ¬ (cc.size<=j/\j<cc.size+1);omega
        ·rename_i hne
         show ¬ (min fr.1 cc.size<=j/\j<max fr.2 (cc.size+1))
         have:cc.size<=fr.1:=by
          rcases Nat.lt_or_ge fr.1 cc.size with hlt|hge
          ·exact absurd ⟨Nat.le_refl _,by omega⟩ (e6 fr.1 (by omega) hlt)
          ·exact hge
         omega)
       refine⟨_,?_,hS⟩
       intros
       have hsh:w.shape? r.b=some (T,cc.size):=by simp [World.shape?,q1]
       have hee:es=el:=by rw[hs] at hd;cases hd;rfl
       subst hee
       simp [execOp,hu,convert,run_underlying hs,run_underlying hel,markStringish,hab,hsh]
      have hx2:=hV
      generalize hu:ρ x=u at hV
      cases hV with
      | @sl _ _ _ _ _ cap _ r g1 g2 g3 g4 g5 g6 g7 g8 g9=>
       obtain⟨w',hrun,hS⟩:=key g1 hmv rfl hu
       exact⟨w',_,G,hrun,hS,hx2⟩
      | @sl0 _ _ _ _ o _ r g1 g2 g3 g6 g9=>exact absurd hlen0 (by omega)
     ·cases h1
    ·cases h1
   ·cases h1
  ·
   rename_i t loc off ver lim hs hd
   split at h1
   ·rename_i cells vr minv frz ro tt hl
    split at h1
    ·rename_i hq
     obtain⟨hw,hlt,hmv⟩:=hq
     cases h1
     obtain⟨n,hn⟩:=zgb hw
     obtain⟨r,c,T,fr,g1,g2,g3,hu,q1,qt,q2,q3,hs0⟩:=zfM hr hl hmv hV
     rw[hs0,Nat.add_zero] at hu
     refine ROk.quiet hr hV ?_
     intros
     have hsh:w.shape? r.b=some (T,c.size):=by simp [World.shape?,q1]
     have hlt2:¬ (c.size<=off-r.lo):=by omega
     simp [execOp,hu,convert,run_underlying hs,run_underlying hd,Conv.unsafePointer,Conv.seenAt,viewAt,cellsIn,hsh,run_sizeOf hn,hlt2]
    ·cases h1
   ·cases h1
  ·rename_i u loc off ver lim hs hd
   split at h1
   ·rename_i cells vr minv frz ro T hl
    split at h1
    ·rename_i hq
     obtain⟨rfl,rfl,hmv,hc0,hcl⟩:=hq
     cases h1
     obtain⟨r,c,T',fr,g1,g2,g3,hu,q1,qt,q2,q3,hs0⟩:=zfM hr hl hmv hV
     rw[hs0,Nat.add_zero] at hu
     obtain rfl:=qt _ rfl
     refine ROk.quiet hr hV ?_
     intros
     have hsh:w.shape? r.b=some (T',c.size):=by simp [World.shape?,q1]
     have hlies:liesAt P P.depth T' (c.size/P.cellsOf T') 0 T' 1=true:=zjY hc0 ((Nat.le_div_iff_mul_le hc0).2 (by omega))
     have h00:0-r.lo=0:=by omega
     rw[h00] at hu
     have hva:(variablesAt ⟨r.b,0,none⟩ T' 1).run P w=.ok true w:=by simp [variablesAt,hsh,hlies]
     by_cases hz:P.cellsOf T'=0
     ·omega
     ·have hsz:∃ n,wI P T'=some (n+1):=by
       unfold wI
       unfold Program.cellsOf at hz
       cases hi:P.info? T' with
       |none=>rw[hi] at hz;exact absurd rfl hz
       |some i=>rw[hi] at hz;exact⟨i.size-1,by have:i.size≠0:=hz;simp;omega⟩
      obtain⟨n,hn⟩:=hsz
      simp [execOp,hu,convert,run_underlying hs,run_underlying hd,Conv.unsafePointer,Conv.seenAt,viewAt,hsh,run_sizeOf hn,hva]
    ·cases h1
   ·cases h1
  ·cases h1
 ·cases hm
end
section
variable {P:Program} {G:Gh} {B:Nat} {h h':za} {w:World} {op:Op} {ρ:Operand->Value} {e:Operand->Option AV} {r:Rs}
theorem zaP{d:TypeDesc}{k:AV}{u:Value}(hk:zfj d k=true)(hV:V G k u):MapKept.IsKey d u:=by
 cases d<;>cases hV<;>simp_all [zfj,MapKept.IsKey,zbd]
theorem zbD{d:TypeDesc}{a b:AV}{u v:Value}{t:Bool}(hs:zfD d a b=some t)(ha:V G a u)(hb:V G b v):Instr.sameNow d u v=some t:=by
 unfold zfD at hs
 split at hs
 ·split at hs
  ·rename_i hk
   subst hk
   cases hs;rw[qV ha,qV hb];simp [Instr.sameNow]
  ·cases hs
 ·rename_i a b
  cases hs;rw[xP ha,xP hb]
  show some (a.toArray==b.toArray)=_
  simp
 ·cases hs;rw[zcA ha,zcA hb];simp [Instr.sameNow]
 ·cases hs
theorem zil{d:TypeDesc}{u v:Value}{t:Bool}(hu:MapKept.IsKey d u)(h:Instr.sameNow d u v=some t):MapKept.IsKey d v:=by
 unfold Instr.sameNow at h
 split at h
 ·split at h
  ·rename_i hk;subst hk;exact hu
  ·cases h
 ·trivial
 ·trivial
 ·cases h
theorem zaJ{d:TypeDesc}{k:AV}{u:Value}:∀ {es:List (AV×AV)} {es':List MapEntry} {i j:Nat},kA d k es i=some none->V G k u->VL G (es.map (·.1)) (es'.map (·.key))->Instr.findNow d u es' j=some none
 | [],es',i,j,_,_,hx=>by
  cases es' with
  |nil=>rfl
  |cons=>cases hx
 |p::es,[],_,_,_,_,hx=>by cases hx
 |p::es,e'::es',i,j,h,hk,hx=>by
  unfold kA at h
  cases hx with
  |cons h1 h2=>
   split at h
   ·cases h
   ·rename_i hs
    unfold Instr.findNow
    rw[zbD hs hk h1]
    exact zaJ h hk h2
   ·cases h
theorem zaK{d:TypeDesc}{k:AV}{u:Value}:∀ {es:List (AV×AV)} {es':List MapEntry} {i j:Nat} {v:AV},kA d k es i=some (some (j,v))->V G k u->zfj d k=true->VL G (es.map (·.1)) (es'.map (·.key))->VL G (es.map (·.2)) (es'.map (·.val)) ->
  ∃ e',Instr.findNow d u es' i=some (some (j,e'.val))/\i<=j/\es'[j-i]?=some e'/\e'.key=u/\V G v e'.val
 | [],es',i,j,v,h,_,_,_,_=>by cases h
 |p::es,[],_,_,_,_,_,_,hx,_=>by cases hx
 |p::es,e'::es',i,j,v,h,hk,hok,hx,hy=>by
  unfold kA at h
  cases hx with
  |cons h1 h2=>
   cases hy with
   |cons h3 h4=>
    split at h
    ·rename_i hs
     cases h
     have hs':=zbD hs hk h1
     refine⟨e',by unfold Instr.findNow;rw[hs'],Nat.le_refl _,by simp,?_,h3⟩
     have hik:=zaP hok hk
     have hik2:=zil hik hs'
     obtain⟨q,hq,hiff⟩:=MapKept.sameNow_of_keys hik hik2
     rw[hs'] at hq;cases hq
     exact(hiff.1 rfl).symm
    ·rename_i hs
     obtain⟨e2,g1,g2,g3,g4,g5⟩:=zaK h hk hok h2 h4
     refine⟨e2,by unfold Instr.findNow;rw[zbD hs hk h1];exact g1,by omega,?_,g4,g5⟩
     rw[show j-i=(j-(i+1))+1 from by omega];simpa using g3
    ·cases h
theorem zkL{t:TypeId}(hr:HR G B h w)(hm:mop P e h (.makeMap t none)=some r):ROk P G B w (.makeMap t none) ρ r:=by
 simp only[mop] at hm
 cases hm
 have hS:=Step.push (blk:=.map []) (vs:=[⟨w.heap.size,0,0,0,0⟩]) (w':=w.alloc (.map #[] 0)) hr rfl (by simp) (fun b hb=>(xw.alloc [] w _).block b hb (by simp)) rfl rfl rfl
  (fun v r hv=>by cases v<;>simp at hv;subst hv;exact⟨Nat.le_refl _,by simp⟩) (Or.inr ⟨_,rfl,#[],0,heap_alloc_new w _,.nil,.nil,fun e he=>by cases he⟩)
 refine⟨_,.map (some w.heap.size),_,?_,hS,?_⟩
 ·intros;simp [execOp,Instr.makeMap]
 ·rw[<- hr.len]
  exact .map (r:=⟨w.heap.size,0,0,0,0⟩) (by rw[jz];rfl)
theorem zoC{t:TypeId}{x:Operand}(hr:HR G B h w)(he:∀ x v,e x=some v->V G v (ρ x))(hm:mop P e h (.range t x)=some r):ROk P G B w (.range t x) ρ r:=by
 have key:∀ {m:Option Nat} {o:Option Nat} {b c:Nat},(match m with|none=>o=none|some l=>∃ rm,G.at l 0=some rm/\o=some rm.b)->r=.val (.ptr h.length 0 0 0) (h++[Blk.zaU m]) ->
   (Instr.range t (ρ x)).run P w=.ok (.pointer (some ⟨w.heap.size,0,none⟩)) (w.alloc (.mapIter o b #[] c))->ROk P G B w (.range t x) ρ r:=by
  intro m o b c hmo hr' hrun
  subst hr'
  have hS:=Step.push (blk:=.zaU m) (vs:=[⟨w.heap.size,0,0,0,0⟩]) (w':=w.alloc (.mapIter o b #[] c)) hr rfl (by simp) (fun b hb=>(xw.alloc [] w _).block b hb (by simp)) rfl rfl rfl
   (fun v r hv=>by cases v<;>simp at hv;subst hv;exact⟨Nat.le_refl _,by simp⟩) (Or.inr ⟨_,rfl,rfl,o,b,#[],c,heap_alloc_new w _,by
    cases m with
    |none=>exact hmo
    |some l=>obtain⟨rm,h1,h2⟩:=hmo;exact⟨rm,Gh.wz G _ _ _ _ h1,h2⟩⟩)
  refine⟨_,.pointer (some ⟨w.heap.size,0,none⟩),_,?_,hS,?_⟩
  ·intros;simp [execOp,hrun]
  ·rw[<- hr.len]
   exact .ptr (r:=⟨w.heap.size,0,0,0,0⟩) (by rw[jz];rfl) (Nat.le_refl _) (Nat.le_refl _)
 simp only[mop] at hm
 split at hm
 ·rename_i ht hx
  cases hm
  have hV:=he _ _ hx
  generalize hu:ρ x=u at hV key
  cases hV
  exact key (m:=none) (o:=none) (b:=0) (c:=0) rfl rfl (by simp [Instr.range,run_underlying ht])
 ·rename_i loc ht hx
  split at hm
  ·rename_i k v hb
   cases hm
   have hV:=he _ _ hx
   generalize hu:ρ x=u at hV key
   cases hV with
   | @map _ rm ha=>
    obtain⟨b,vs,hb',hg,hv,hR⟩:=hr.get ha
    rw[hb] at hb';cases hb'
    rcases hR with rfl|⟨r',rfl,es',clock,h1,h2,h3,h4⟩
    ·simp at hv
    ·simp at hv;subst hv
     obtain⟨e0,rfl⟩:∃ e0,es'=#[e0]:=by
      have:=h2.length
      simp at this
      exact Array.size_eq_one_iff.1 this
     cases h2 with
     |cons q1 _=>cases h3 with
      |cons q2 _=>
       have hbn:=h4 e0 (by simp)
       have S1:=Step.push (blk:=.mit loc false) (vs:=[⟨w.heap.size,0,clock,e0.born,0⟩]) (w':=w.alloc (.mapIter (some r'.b) clock #[] clock)) hr rfl (by simp) (fun b hb=>(xw.alloc [] w _).block b hb (by simp)) rfl rfl rfl
        (fun v r hv=>by cases v<;>simp at hv;subst hv;exact⟨Nat.le_refl _,by simp⟩) (Or.inr ⟨_,rfl,rfl,r',Gh.wz G _ _ _ _ ha,by simpa using heap_alloc_new w _⟩)
       have hl:loc<h.length:=Arr.lt hb
       have hg1:(G++[[⟨w.heap.size,0,clock,e0.born,0⟩]])[loc]?=some [r']:=by rw[List.getElem?_append_left (by rw[hr.len];exact hl)];exact hg
       have hit:Gh.at (G++[[⟨w.heap.size,0,clock,e0.born,0⟩]]) h.length 0=some ⟨w.heap.size,0,clock,e0.born,0⟩:=by rw[<- hr.len,jz];rfl
       have hw1:(w.alloc (.mapIter (some r'.b) clock #[] clock)).heap[r'.b]?=some (.map #[e0] clock):=((xw.alloc [] w _).block r'.b (hr.lt _ _ _ ha) (by simp)).trans h1
       have S2:=Step.upd (vs':=[r']) (blk':=.zbm k v h.length) (w':=w.alloc (.mapIter (some r'.b) clock #[] clock)) S1.hr (by rw[Arr.zO hl];exact hb) hg1 rfl rfl ⟨0,r',rfl,rfl⟩ (Nat.le_refl _) (fun _ _ _=>rfl) rfl rfl rfl (fun _ _ h=>h)
        (fun v r h=>.inr ⟨v,r,h,rfl⟩) (fun hle=>Or.inr ⟨r',rfl,e0,_,hw1,(q1.le (Gh.wz G _)).le hle,(q2.le (Gh.wz G _)).le hle,hle _ _ _ hit,rfl,hbn⟩)
       rw[qJ hg1] at S2
       refine⟨_,.pointer (some ⟨w.heap.size,0,none⟩),_,?_,S1.trans S2,?_⟩
       ·intros;simp [execOp,hu,Instr.range,run_underlying ht,MapKept.run_getObj_map h1]
       ·exact .ptr (r:=⟨w.heap.size,0,clock,e0.born,0⟩) hit (Nat.le_refl _) (Nat.zero_le _)
  ·rename_i es hne hb
   cases hm
   have hV:=he _ _ hx
   generalize hu:ρ x=u at hV key
   cases hV with
   | @map _ rm ha=>
    obtain⟨b,vs,hb',hg,hv,hR⟩:=hr.get ha
    rw[hb] at hb';cases hb'
    rcases hR with rfl|⟨r',rfl,es',clock,h1,_⟩
    ·simp at hv
    ·simp at hv;subst hv
     exact key (m:=some loc) (o:=some r'.b) (b:=clock) (c:=clock) ⟨_,ha,rfl⟩ rfl (by simp [Instr.range,run_underlying ht,MapKept.run_getObj_map h1])
  ·cases hm
 ·cases hm
theorem zeE{b a c:Nat}{s:Array Nat}{ty:TypeId}(h1:w.heap[b]?=some (.mapIter none a s c)):(Instr.next (.pointer (some ⟨b,0,none⟩)) false ty).run P w=.ok (.tuple #[.bool false]) w:=by
 simp only[Instr.next,getObj,Sem.run_bind,Sem.run,h1,Result.andThen]
 rfl
theorem zdt{b a c m cl:Nat}{s:Array Nat}{ty:TypeId}(h1:w.heap[b]?=some (.mapIter (some m) a s c))(h2:w.heap[m]?=some (.map #[] cl)):(Instr.next (.pointer (some ⟨b,0,none⟩)) false ty).run P w=.ok (.tuple #[.bool false]) w:=by
 simp only[Instr.next,getObj,Sem.run_bind,Sem.run,h1,h2,Result.andThen]
 have hf:∀ p:MapEntry->Bool,Array.filter p #[]=#[]:=fun _=>rfl
 simp only[hf]
 simp [Question.forced,Result.andThen]
theorem zfU{b m a:Nat}{e0:MapEntry}{ty:TypeId}(h1:w.heap[b]?=some (.mapIter (some m) a #[] a))(h2:w.heap[m]?=some (.map #[e0] a))(hb:e0.born<a):
  (Instr.next (.pointer (some ⟨b,0,none⟩)) false ty).run P w=.ok (.tuple #[.bool true,e0.key,e0.val]) { w with heap:=w.heap.setIfInBounds b (.mapIter (some m) a #[e0.born] a) }:=by
 have hf:Array.filter (fun e:MapEntry=>!(#[]:Array Nat).contains e.born) #[e0]=#[e0]:=by simp [Array.filter]
 have hf2:Array.filter (fun e:MapEntry=>decide (e.born<a)) #[e0]=#[e0]:=by simp [Array.filter,hb]
 have hf3:Array.filter (fun e:MapEntry=>decide (e.born ≥ a)) #[e0]=#[]:=by simp [Array.filter,hb]
 simp only[Instr.next,getObj,Sem.run_bind,Sem.run,h1,h2,Result.andThen]
 simp only[hf,hf2,hf3]
 simp [Question.forced,Result.andThen,setObj,Sem.run,h1]
theorem zeD{b m a:Nat}{e0:MapEntry}{ty:TypeId}(h1:w.heap[b]?=some (.mapIter (some m) a #[e0.born] a))(h2:w.heap[m]?=some (.map #[e0] a))(hb:e0.born<a):
  (Instr.next (.pointer (some ⟨b,0,none⟩)) false ty).run P w=.ok (.tuple #[.bool false]) w:=by
 have hf:Array.filter (fun e:MapEntry=>!(#[e0.born]:Array Nat).contains e.born) #[e0]=#[]:=by simp [Array.filter]
 have hf2:∀ p:MapEntry->Bool,Array.filter p #[]=#[]:=fun _=>rfl
 have hal:(#[e0]:Array MapEntry).all (fun e=>decide (e.born ≥ a))=false:=by simp [hb]
 simp only[Instr.next,getObj,Sem.run_bind,Sem.run,h1,h2,Result.andThen]
 simp only[hf,hf2,hal]
 simp [Question.forced,Result.andThen]
theorem zeB{b m a:Nat}{e0:MapEntry}(h1:w.heap[b]?=some (.mapIter (some m) a #[e0.born] a))(h2:w.heap[m]?=some (.map #[e0] a)):
  (Instr.entry (.pointer (some ⟨b,0,none⟩))).run P w=.ok (.tuple #[e0.key,e0.val]) w:=by
 simp [Instr.entry,getObj,Sem.run_bind,Sem.run,h1,h2,Result.andThen]
theorem zj9{loc off lim l it:Nat}{s:Bool}{k v:AV}{u:Value}(hr:HR G B h w)(hV:V G (.ptr loc off 0 lim) u)(hb:h[loc]?=some (.mit l s))(hm:h[l]?=some (.zbm k v it))(hi:it=loc)(h0:off=0):
  ∃ r rm e0,u=.pointer (some ⟨r.b,0,none⟩)/\G[loc]?=some [r]/\G[l]?=some [rm]/\w.heap[r.b]?=some (.mapIter (some rm.b) r.top (if s then #[r.size] else #[]) r.top)/\w.heap[rm.b]?=some (.map #[e0] r.top)/\V G k e0.key/\V G v e0.val/\e0.born=r.size/\r.size<r.top/\r.sh=0:=by
 subst hi;subst h0
 cases hV with
 | @ptr _ _ _ _ rp ha q1 q2=>
  obtain⟨b,vs,hb',hg,hv,hR⟩:=hr.get ha
  rw[hb] at hb';cases hb'
  rcases hR with rfl|⟨r',rfl,h0,rm,h1,h2⟩
  ·simp at hv
  simp at hv;subst hv
  obtain⟨b2,vs2,hb2,hg2,hv2,hR2⟩:=hr.get h1
  rw[hm] at hb2;cases hb2
  rcases hR2 with rfl|⟨r2,rfl,e0,rit,k1,k2,k3,k4,k5,k6⟩
  ·simp at hv2
  simp at hv2;subst hv2
  rw[ha] at k4;cases k4
  refine⟨r',r2,e0,?_,hg,hg2,h2,k1,k2,k3,k5,k6,h0⟩
  simp [h0]
theorem zoz{x:Operand}(hr:HR G B h w)(he:∀ x v,e x=some v->V G v (ρ x))(hm:mop P e h (.entry x)=some r):ROk P G B w (.entry x) ρ r:=by
 simp only[mop] at hm
 split at hm
 ·rename_i loc hx
  split at hm
  ·rename_i l hb
   split at hm
   ·rename_i k v it hb2
    split at hm
    ·rename_i hi
     cases hm
     obtain⟨r,rm,e0,hu,g1,g2,h1,h2,hk,hv,h3,h4,h5⟩:=zj9 hr (he _ _ hx) hb hb2 hi rfl
     refine ROk.quiet hr (.tup (.cons hk (.cons hv .nil))) ?_
     intros
     rw[<- h3] at h1
     simp [execOp,hu,zeB h1 h2]
    ·cases hm
   ·cases hm
  ·cases hm
 ·cases hm
theorem zpQ{x:Operand}{isStr:Bool}(hr:HR G B h w)(he:∀ x v,e x=some v->V G v (ρ x))(hm:mop P e h (.next x isStr)=some r):ROk P G B w (.next x isStr) ρ r:=by
 cases isStr with
 |true=>simp [mop] at hm
 |false=>
  simp only[mop] at hm
  split at hm
  ·rename_i loc hx
   have hV:=he _ _ hx
   generalize hu:ρ x=u at hV
   cases hV with
   | @ptr _ _ _ _ rp ha q1 q2=>
    have key:∀ {m:Option Nat},h[loc]?=some (.zaU m)->∃ a s c b,w.heap[rp.b]?=some (.mapIter a s c b)/\rp.sh=0/\match m with|none=>a=none|some l=>∃ rm,G.at l 0=some rm/\a=some rm.b:=by
     intro m hb
     obtain⟨b,vs,hb',hg,hv,hR⟩:=hr.get ha
     rw[hb] at hb';cases hb'
     rcases hR with rfl|⟨r',rfl,h0,a,s,c,b,h1,h2⟩
     ·simp at hv
     ·simp at hv;subst hv
      exact⟨a,s,c,b,h1,h0,h2⟩
    have fin:r=.val (.tup [.bool false]) h->(∀ ty,(Instr.next (.pointer (some ⟨rp.b,0,none⟩)) false ty).run P w=.ok (.tuple #[.bool false]) w)->rp.sh=0->ROk P G B w (.next x false) ρ r:=by
     intro h1 h2 h3
     subst h1
     refine ROk.quiet hr (.tup (.cons (.bool false) .nil)) ?_
     intros
     simp [execOp,hu,h3,h2]
    split at hm
    ·rename_i hb
     cases hm
     obtain⟨a,s,c,b,h1,h0,h2⟩:=key hb
     obtain rfl:a=none:=h2
     exact fin rfl (fun ty=>zeE h1) h0
    ·rename_i l hb
     split at hm
     ·rename_i hb2
      cases hm
      obtain⟨a,s,c,b,h1,h0,rm,h2,rfl⟩:=key hb
      obtain⟨bk,vs,hb',hg,hv,hR⟩:=hr.get h2
      rw[hb2] at hb';cases hb'
      rcases hR with rfl|⟨r',rfl,es',clock,k1,k2,_⟩
      ·simp at hv
      ·simp at hv;subst hv
       have:es'=#[]:=by
        have:=k2.length
        simpa using this
       subst this
       exact fin rfl (fun ty=>zdt h1 k1) h0
     ·cases hm
    ·rename_i l s hb
     have hV2:=he _ _ hx
     split at hm
     ·rename_i k v it hb2
      split at hm
      ·rename_i hi
       cases hm
       obtain⟨r,rm,e0,hu',g1,g2,h1,h2,hk,hv,h3,h4,h5⟩:=zj9 hr hV2 hb hb2 hi rfl
       rw[<- h3] at h4
       obtain⟨q1,q2⟩:=MapKept.heap_set (o':=.mapIter (some rm.b) r.top #[e0.born] r.top) h1
       have hS:=Step.upd (vs':=[r]) (blk':=.mit l true) (w':={ w with heap:=w.heap.setIfInBounds r.b (.mapIter (some rm.b) r.top #[e0.born] r.top) }) hr hb g1 rfl rfl ⟨0,r,rfl,rfl⟩ (by simp) (fun k _ hk=>q2 k hk) rfl rfl rfl (fun _ _ h=>h)
        (fun v r h=>.inr ⟨v,r,h,rfl⟩) (fun hle=>Or.inr ⟨r,rfl,h5,rm,hle _ _ _ (Gh.kk g2 rfl),by rw[q1,h3];rfl⟩)
       rw[qJ g1] at hS
       refine⟨_,.tuple #[.bool true,e0.key,e0.val],_,?_,hS,.tup (.cons (.bool true) (.cons hk (.cons hv .nil)))⟩
       intros
       simp [execOp,hu',zfU h1 h2 h4]
      ·cases hm
     ·rename_i k v it hb2
      split at hm
      ·rename_i hi
       cases hm
       obtain⟨r,rm,e0,hu',g1,g2,h1,h2,hk,hv,h3,h4,h5⟩:=zj9 hr hV2 hb hb2 hi rfl
       have hne:l≠loc:=fun e=>by rw[e,hb] at hb2;cases hb2
       have S1:=Step.upd (vs':=[rm]) (blk':=.map [(k,v)]) (w':=w) hr hb2 g2 rfl rfl ⟨0,rm,rfl,rfl⟩ (Nat.le_refl _) (fun _ _ _=>rfl) rfl rfl rfl (fun _ _ h=>h)
        (fun v r h=>.inr ⟨v,r,h,rfl⟩) (fun hle=>Or.inr ⟨rm,rfl,#[e0],r.top,h2,.cons (hk.le hle) .nil,.cons (hv.le hle) .nil,fun e he=>by simp at he;subst he;omega⟩)
       rw[qJ g2] at S1
       have S2:=Step.upd (vs':=[r]) (blk':=.gone) (w':=w) S1.hr (by rw[Arr.zk hne];exact hb) g1 rfl rfl ⟨0,r,rfl,rfl⟩ (Nat.le_refl _) (fun _ _ _=>rfl) rfl rfl rfl (fun _ _ h=>h)
        (fun v r h=>.inr ⟨v,r,h,rfl⟩) (fun hle=>trivial)
       rw[qJ g1] at S2
       rw[<- h3] at h4 h1
       refine⟨_,.tuple #[.bool false],_,?_,S1.trans S2,.tup (.cons (.bool false) .nil)⟩
       intros
       simp [execOp,hu',zeD h1 h2 h4]
      ·cases hm
     ·cases hm
    ·cases hm
  ·cases hm
theorem zfr{m:AV}{u:Value}{es:List (AV×AV)}(hr:HR G B h w)(hm:zM m h=some es)(hV:V G m u):
  (m=.zcd/\es=[]/\u=.map none)\/∃ loc r es' clock,m=.map loc/\h[loc]?=some (.map es)/\G.at loc 0=some r/\u=.map (some r.b)/\w.heap[r.b]?=some (.map es' clock) /\
   VL G (es.map (·.1)) (es'.toList.map (·.key))/\VL G (es.map (·.2)) (es'.toList.map (·.val))/\∀ e ∈ es'.toList,e.born<clock:=by
 unfold zM at hm
 split at hm
 ·cases hm;cases hV;exact .inl ⟨rfl,rfl,rfl⟩
 ·rename_i loc
  split at hm
  ·rename_i es0 hb
   cases hm
   cases hV with
   | @map _ r ha=>
    obtain⟨b,vs,hb',hg,hv,hR⟩:=hr.get ha
    rw[hb] at hb';cases hb'
    rcases hR with rfl|⟨r',rfl,es',clock,h1,h2,h3⟩
    ·simp at hv
    ·simp at hv;subst hv
     exact .inr ⟨loc,_,es',clock,rfl,hb,ha,rfl,h1,h2,h3⟩
  ·cases hm
 ·cases hm
theorem zmn{t:TypeId}{m k:Operand}{ok:Bool}(hr:HR G B h w)(he:∀ x v,e x=some v->V G v (ρ x))(hm:mop P e h (.lookup t m k ok)=some r):ROk P G B w (.lookup t m k ok) ρ r:=by
 simp only[mop] at hm
 split at hm
 ·rename_i a b ha hb
  obtain⟨v,h1,rfl⟩:=qB hm
  have hA:=he _ _ ha
  have hB:=he _ _ hb
  unfold qN at h1
  split at h1
  ·rename_i kt et ht
   split at h1
   ·rename_i d z hd hz
    split at h1
    ·rename_i es hes
     split at h1
     ·rename_i hok
      obtain⟨zu,hzr,hzv,_⟩:=jv G hz
      have hik:=zaP hok hB
      have fin:∀ {x:AV} {ux:Value} {q:Bool},V G x ux->v=(if ok=true then .tup [x,.bool q] else x)->(Instr.lookup t (ρ m) (ρ k) ok).run P w=.ok (if ok=true then .tuple #[ux,.bool q] else ux) w->ROk P G B w (.lookup t m k ok) ρ (.val v h):=by
       intro x ux q hx hv hrun
       refine ROk.quiet hr (u:=if ok=true then .tuple #[ux,.bool q] else ux) ?_ ?_
       ·rw[hv]
        cases ok
        ·simpa using hx
        ·simp;exact V.tup (us:=[ux,.bool q]) (.cons hx (.cons (.bool q) .nil))
       ·intros
        simp only[execOp,Sem.run_bind,hrun,Result.andThen_ok,Sem.run_pure]
      rcases zfr hr hes hA with⟨rfl,rfl,hu⟩|⟨loc,r,es',clock,rfl,hl,hg,hu,hw,hk1,hk2,hbn⟩
      ·simp only[kA] at h1
       cases h1
       refine fin hzv rfl ?_
       rw[hu]
       cases ok<;>simp [Instr.lookup,run_underlying ht,MapKept.run_checkKey hd hik,MapKept.run_findKey hd (show Instr.findNow d (ρ k) [] 0=some none from rfl),hzr]
      ·split at h1
       ·rename_i i x hf
        cases h1
        obtain⟨e',g1,g2,g3,g4,g5⟩:=zaK hf hB hok hk1 hk2
        refine fin g5 rfl ?_
        rw[hu]
        cases ok<;>simp [Instr.lookup,run_underlying ht,MapKept.run_getObj_map hw,MapKept.run_checkKey hd hik,MapKept.run_findKey hd g1]
       ·rename_i hf
        cases h1
        have g1:=zaJ (j:=0) hf hB hk1
        refine fin hzv rfl ?_
        rw[hu]
        cases ok<;>simp [Instr.lookup,run_underlying ht,MapKept.run_getObj_map hw,MapKept.run_checkKey hd hik,MapKept.run_findKey hd g1,hzr]
       ·cases h1
     ·cases h1
    ·cases h1
   ·cases h1
  ·cases h1
 ·cases hm
theorem zaS{loc clock':Nat}{r:Ver}{es es2:List (AV×AV)}{es' es2':Array MapEntry}{clock:Nat}(hr:HR G B h w)(hl:h[loc]?=some (.map es))(hg:G.at loc 0=some r)(hw:w.heap[r.b]?=some (.map es' clock))
  (h1:VL G (es2.map (·.1)) (es2'.toList.map (·.key))) (h2:VL G (es2.map (·.2)) (es2'.toList.map (·.val))) (h3:∀ e ∈ es2'.toList,e.born<clock'):
  Step G G B (h.set loc (.map es2)) w { w with heap:=w.heap.setIfInBounds r.b (.map es2' clock') }:=by
 obtain⟨b,vs,hb',hg',hv,hR⟩:=hr.get hg
 rw[hl] at hb';cases hb'
 rcases hR with rfl|⟨r',rfl,_⟩
 ·simp at hv
 simp at hv;subst hv
 obtain⟨q1,q2⟩:=MapKept.heap_set (o':=.map es2' clock') hw
 have hS:=Step.upd (vs':=[r']) (blk':=.map es2) (w':={ w with heap:=w.heap.setIfInBounds r'.b (.map es2' clock') }) hr hl hg' rfl rfl ⟨0,r',rfl,rfl⟩ (by simp) (fun k _ hk=>q2 k hk) rfl rfl rfl (fun _ _ h=>h)
  (fun v r h=>.inr ⟨v,r,h,rfl⟩) (fun hle=>Or.inr ⟨r',rfl,es2',clock',q1,h1.le hle,h2.le hle,h3⟩)
 rw[qJ hg'] at hS
 exact hS
theorem zkH{t:TypeId}{m k v:AV}{um uk uv:Value}(hr:HR G B h w)(hm:zlE P t m k v h=some h')(hM:V G m um)(hK:V G k uk)(hV:V G v uv):∃ w',(Instr.mapUpdate t um uk uv).run P w=.ok () w'/\Step G G B h' w w':=by
 unfold zlE at hm
 split at hm
 ·rename_i kt et loc ht
  split at hm
  ·rename_i d es hd hl
   split at hm
   ·rename_i hok
    have hik:=zaP hok hK
    rcases zfr hr (show zM (.map loc) h=some es by simp [zM,hl]) hM with⟨h0,_⟩|⟨loc',r,es',clock,h0,_,hg,hu,hw,hk1,hk2,hbn⟩
    ·cases h0
    cases h0
    subst hu
    split at hm
    ·rename_i i x hf
     cases hm
     obtain⟨e',g1,g2,g3,g4,g5⟩:=zaK hf hK hok hk1 hk2
     rw[Nat.sub_zero] at g3
     have g3':es'[i]?=some e':=by rw[<- Array.getElem?_toList];exact g3
     have hS:=zaS (clock':=clock) (es2:=es.set i (k,v)) (es2':=es'.modify i fun e=>{ e with key:=uk,val:=uv }) hr hl hg hw ?_ ?_ (fun e he=>by
      rw[Array.toList_modify,List.mem_iff_getElem?] at he
      obtain⟨j,hj⟩:=he
      rw[List.getElem?_modify] at hj
      cases hq:es'.toList[j]? with
      |none=>rw[hq] at hj;simp at hj
      |some e0=>
       rw[hq] at hj
       have hb0:=hbn e0 (List.mem_of_getElem? hq)
       simp only[Option.map_eq_map,Option.map_some,Option.some.injEq] at hj
       subst hj
       split<;>exact hb0)
     ·refine⟨_,?_,hS⟩
      simp [Instr.mapUpdate,run_underlying ht,MapKept.run_getObj_map hw,MapKept.run_checkKey hd hik,MapKept.run_findKey hd g1,g3',g4,MapKept.run_keyThatStays hik,MapKept.run_setObj_map _ hw]
     ·rw[List.map_set]
      refine VL.za2 (by have:=hk1.length;simp at this |-;exact this) fun j x u hx hu=>?_
      rw[List.getElem?_set] at hx
      rw[List.getElem?_map,Array.getElem?_toList,Array.getElem?_modify] at hu
      split at hx
      ·rename_i hij
       subst hij
       split at hx
       ·cases hx
        simp [g3'] at hu;subst hu;exact hK
       ·cases hx
      ·rename_i hij
       rw[if_neg hij] at hu
       obtain⟨u',q1,q2⟩:=hk1.get hx
       rw[List.getElem?_map,Array.getElem?_toList,hu] at q1
       cases q1;exact q2
     ·rw[List.map_set]
      refine VL.za2 (by have:=hk2.length;simp at this |-;exact this) fun j x u hx hu=>?_
      rw[List.getElem?_set] at hx
      rw[List.getElem?_map,Array.getElem?_toList,Array.getElem?_modify] at hu
      split at hx
      ·rename_i hij
       subst hij
       split at hx
       ·cases hx
        simp [g3'] at hu;subst hu;exact hV
       ·cases hx
      ·rename_i hij
       rw[if_neg hij] at hu
       obtain⟨u',q1,q2⟩:=hk2.get hx
       rw[List.getElem?_map,Array.getElem?_toList,hu] at q1
       cases q1;exact q2
    ·rename_i hf
     cases hm
     have g1:=zaJ (j:=0) hf hK hk1
     have hS:=zaS (clock':=clock+1) (es2:=es++[(k,v)]) (es2':=es'.push { key:=uk,val:=uv,born:=clock }) hr hl hg hw (by simpa using hk1.append (.cons hK .nil)) (by simpa using hk2.append (.cons hV .nil)) (fun e he=>by
      rw[Array.toList_push,List.mem_append] at he
      rcases he with he|he
      ·exact Nat.lt_succ_of_lt (hbn e he)
      ·simp at he;subst he;exact Nat.lt_succ_self _)
     refine⟨_,?_,hS⟩
     simp [Instr.mapUpdate,run_underlying ht,MapKept.run_getObj_map hw,MapKept.run_checkKey hd hik,MapKept.run_findKey hd g1,MapKept.run_setObj_map _ hw]
    ·cases hm
   ·cases hm
  ·cases hm
 ·cases hm
theorem zg4{t:TypeId}{m k v:Operand}(hr:HR G B h w)(he:∀ x v,e x=some v->V G v (ρ x))(hm:mop P e h (.mapUpdate t m k v)=some r):ROk P G B w (.mapUpdate t m k v) ρ r:=by
 simp only[mop] at hm
 split at hm
 ·rename_i a b c ha hb hc
  obtain⟨h',h1,rfl⟩:=zgZ hm
  obtain⟨w',hrun,hS⟩:=zkH hr h1 (he _ _ ha) (he _ _ hb) (he _ _ hc)
  exact⟨w',G,by intros;simp only[execOp,Sem.run_bind,hrun,Result.andThen_ok,Sem.run_pure],hS⟩
 ·cases hm
theorem zmm{t:TypeId}{m k v:Operand}(hr:HR G B h w)(he:∀ x v,e x=some v->V G v (ρ x))(hm:mop P e h (.insert t m k v)=some r):ROk P G B w (.insert t m k v) ρ r:=by
 simp only[mop] at hm
 split at hm
 ·rename_i a b c ha hb hc
  obtain⟨h',h1,rfl⟩:=zgZ hm
  obtain⟨w',hrun,hS⟩:=zkH hr h1 (he _ _ ha) (he _ _ hb) (he _ _ hc)
  exact⟨w',G,by intros;simp only[execOp,Sem.run_bind,hrun,Result.andThen_ok,Sem.run_pure],hS⟩
 ·cases hm
theorem ziO{t ty t2:TypeId}{m k:AV}{um uk:Value}(hr:HR G B h w)(hm:zbp P t m k h=some h')(hM:V G m um)(hK:V G k uk):∃ w',(Builtin.delete_ #[t,t2] ty #[um,uk]).run P w=.ok (.tuple #[]) w'/\Step G G B h' w w':=by
 unfold zbp at hm
 split at hm
 ·rename_i kt et loc ht
  split at hm
  ·rename_i d es hd hl
   split at hm
   ·rename_i hok
    have hik:=zaP hok hK
    rcases zfr hr (show zM (.map loc) h=some es by simp [zM,hl]) hM with⟨h0,_⟩|⟨loc',r,es',clock,h0,_,hg,hu,hw,hk1,hk2,hbn⟩
    ·cases h0
    cases h0
    subst hu
    split at hm
    ·rename_i i x hf
     cases hm
     obtain⟨e',g1,g2,g3,g4,g5⟩:=zaK hf hK hok hk1 hk2
     rw[Nat.sub_zero] at g3
     have hi:i<es'.size:=by simpa using(List.getElem?_eq_some_iff.1 g3).1
     have her:∀ {α:Type} (f:AV×AV->AV) (g:MapEntry->Value),VL G (es.map f) (es'.toList.map g)->VL G ((es.eraseIdx i).map f) ((es'.eraseIdxIfInBounds i).toList.map g):=by
      intro _ f g hx
      have e1:(es'.eraseIdxIfInBounds i).toList=es'.toList.eraseIdx i:=by simp
      rw[e1,List.eraseIdx_eq_take_drop_succ,List.eraseIdx_eq_take_drop_succ,List.map_append,List.map_append,List.map_take,List.map_take,List.map_drop,List.map_drop]
      exact(hx.take i).append (hx.drop (i+1))
     have hS:=zaS (clock':=clock) (es2:=es.eraseIdx i) (es2':=es'.eraseIdxIfInBounds i) hr hl hg hw (her (α:=Unit) _ _ hk1) (her (α:=Unit) _ _ hk2) (fun e he=>by
      rw[show(es'.eraseIdxIfInBounds i).toList=es'.toList.eraseIdx i from by simp] at he
      exact hbn e (List.mem_of_mem_eraseIdx he))
     refine⟨_,?_,hS⟩
     simp [Builtin.delete_,run_underlying ht,MapKept.run_getObj_map hw,MapKept.run_checkKey hd hik,MapKept.run_findKey hd g1,MapKept.run_setObj_map _ hw]
    ·rename_i hf
     cases hm
     have g1:=zaJ (j:=0) hf hK hk1
     have hS:=zaS (clock':=clock) (es2:=es) (es2':=es') hr hl hg hw hk1 hk2 hbn
     refine⟨_,?_,hS⟩
     simp [Builtin.delete_,run_underlying ht,MapKept.run_getObj_map hw,MapKept.run_checkKey hd hik,MapKept.run_findKey hd g1,MapKept.run_setObj_map _ hw]
    ·cases hm
   ·cases hm
  ·cases hm
 ·cases hm
end
section
variable {P:Program} {G:Gh} {B:Nat} {h h':za} {w:World} {op:Op} {ρ:Operand->Value} {e:Operand->Option AV} {r:Rs}
theorem zg{b:Builtin}{args:Array Operand}{ats:Array TypeId}{dst:Option Tmp}{ty:TypeId}{pos:String}{after:Array Edge}{g:Option (Nat×Bool)}:
  execOp ρ ⟨dst,.call { callee:=.builtin b,args:=args,argTypes:=ats },ty,pos,after,g⟩=builtin b ats ty (args.map fun|.const _=>true|_=>false) (args.map ρ):=by
 simp [execOp,resolve,invoke];rfl
theorem zjW{t ty:TypeId}{x y:AV}{u:Value}(hr:HR G B h w)(hm:zkf P t x h=some y)(hV:V G x u):∃ z,V G y z/\∀ ty (ats:Array TypeId) (us:Array Value),ats[0]?=some t->us[0]?=some u->(Builtin.len_ ats ty us).run P w=.ok z w:=by
 unfold zkf at hm
 split at hm
 ·rename_i l ht
  cases hm
  refine⟨_,.int _ _,fun ty ats us h1 h2=>?_⟩
  have hS:=xP hV
  subst hS
  simp [Builtin.len_,h1,h2,run_underlying ht,zbd,size_mk,goInt]
 ·rename_i n el ht
  cases hm
  refine⟨_,.int _ _,fun ty ats us h1 h2=>?_⟩
  simp [Builtin.len_,h1,h2,run_underlying ht,goInt]
 ·rename_i el ht
  cases hm;cases hV
  refine⟨_,.int _ _,fun ty ats us h1 h2=>?_⟩
  simp [Builtin.len_,h1,h2,run_underlying ht,goInt]
 ·rename_i el loc off len sz ver clip ht
  cases hm
  refine⟨_,.int _ _,fun ty ats us h1 h2=>?_⟩
  cases hV<;>simp [Builtin.len_,h1,h2,run_underlying ht,goInt]
 ·rename_i ht
  cases hm;cases hV
  refine⟨_,.int _ _,fun ty ats us h1 h2=>?_⟩
  simp [Builtin.len_,h1,h2,run_underlying ht,goInt]
 ·rename_i kt et loc ht
  split at hm
  ·rename_i es hl
   cases hm
   rcases zfr hr (show zM (.map loc) h=some es by simp [zM,hl]) hV with⟨h0,_⟩|⟨loc',r,es',clock,h0,_,hg,hu,hw,hk1,hk2,hbn⟩
   ·cases h0
   subst hu
   refine⟨_,.int _ _,fun ty ats us h1 h2=>?_⟩
   have:=hk1.length
   simp at this
   simp [Builtin.len_,h1,h2,run_underlying ht,goInt,MapKept.run_getObj_map hw,this]
  ·cases hm
 ·cases hm
theorem ze0{t t2:TypeId}{s x y:AV}{us ux:Value}(hr:HR G B h w)(hm:zbn P t t2 s x h=some (y,h'))(hS:V G s us)(hX:V G x ux)(ty:TypeId):
  ∃ w' u G',(Builtin.append_ #[t,t2] ty #[us,ux]).run P w=.ok u w'/\Step G G' B h' w w'/\V G' y u:=by
 unfold zbn at hm
 split at hm
 ·rename_i el ht
  split at hm
  ·rename_i i hi
   split at hm
   ·rename_i z hz
    split at hm
    ·rename_i hc
     obtain⟨hzs,hby⟩:=hc
     split at hm
     ·rename_i el2 ht2
      cases hX
      exact kT hr hS hm ht hi hz hzs hby (Src.ofNil w ht2 0) .nil
     ·rename_i el2 loc off len sz ver clip ht2
      split at hm
      ·rename_i hsz
       subst hsz
       split at hm
       ·rename_i xs hrd
        have hlen:xs.length=len*i.size:=by
         unfold app at hm
         split at hm
         ·rename_i hq;exact hq.2.1
         ·cases hm
        have hone:xs.all AV.one=true:=by
         unfold app at hm
         split at hm
         ·rename_i hq;exact hq.1
         ·cases hm
        cases hX with
        | @sl _ _ _ _ _ cap _ r g1 g2 g3 g4 g5 g6 g7 g8 g9=>
         obtain⟨vs,o1,o2,o3⟩:=zD hr hrd g1 g2 g3
         exact kT hr hS hm ht hi hz hzs hby (Src.ofSlice w ht2 _ len cap vs o2 (fun j u hu=>by rw[Addr.add_lit];exact o3 j u hu) (o1.one hone)) o1
        | @sl0 _ _ _ _ o _ r g1 g2 g3 g6 g9=>
         obtain⟨vs,o1,o2,o3⟩:=zD hr hrd g1 g2 (by omega)
         obtain rfl:vs=[]:=List.eq_nil_of_length_eq_zero (by omega)
         exact kT hr hS hm ht hi hz hzs hby (Src.ofSlice w ht2 _ 0 0 [] (by simp) (fun j u hu=>by simp at hu) (by simp)) o1
       ·cases hm
      ·cases hm
     ·rename_i l ht2
      split at hm
      ·rename_i hsz
       have hX':=xP hX
       subst hX'
       have hb:(byteCells ⟨l.toArray⟩)=l.map fun c=>Value.int .u8 (c.toNat:Int):=by simp [byteCells]
       have hsrc:=Src.ofString w ht2 ⟨l.toArray⟩
       rw[size_mk,hb] at hsrc
       rw[<- hsz] at hm hsrc
       exact kT hr hS hm ht hi hz hzs hby hsrc (zcl G l)
      ·cases hm
     ·cases hm
    ·cases hm
   ·cases hm
  ·cases hm
 ·cases hm
theorem zf2{t2:TypeId}{z n:Nat}{x:AV}{ux:Value}{xs:List AV}(hr:HR G B h w)(hq:zmb P t2 z x h=some (xs,n))(hX:V G x ux):
  ∃ vs:List Value,VL G xs vs/\vs.length=n*z/\(∀ w,(Builtin.lenOf ux).run P w=.ok n w)/\∀ k,k<=n->(Builtin.firstCells z k ux).run P w=.ok (vs.take (k*z)).toArray w:=by
 unfold zmb at hq
 split at hq
 ·cases hq;cases hX
  exact⟨[],.nil,by simp,fun _=>rfl,fun k hk=>by simp [Builtin.firstCells]⟩
 ·split at hq
  ·rename_i loc off len sz ver clip ht2 hsz
   subst hsz
   split at hq
   ·rename_i ys hrd
    cases hq
    cases hX with
    | @sl _ _ _ _ _ cap _ r g1 g2 g3 g4 g5 g6 g7 g8 g9=>
     obtain⟨vs,o1,o2,o3⟩:=zD hr hrd g1 g2 g3
     refine⟨vs,o1,o2,fun _=>rfl,fun k hk=>?_⟩
     have hkm:k*sz<=n*sz:=Nat.mul_le_mul_right _ hk
     exact run_firstCells_some (P:=P) w sz k _ n cap (vs.take (k*sz)) (by rw[List.length_take,o2];omega) (fun j u hu=>by
      rw[Addr.add_lit]
      rw[List.getElem?_take] at hu
      split at hu
      ·exact o3 j u hu
      ·cases hu)
    | @sl0 _ _ _ _ o _ r g1 g2 g3 g6 g9=>
     obtain⟨vs,o1,o2,o3⟩:=zD hr hrd g1 g2 (by omega)
     refine⟨vs,o1,o2,fun _=>rfl,fun k hk=>?_⟩
     obtain rfl:k=0:=by omega
     simp only[Nat.zero_mul,List.take_zero]
     exact run_firstCells_some (P:=P) w sz 0 _ 0 0 [] (by simp) (fun j u hu=>by simp at hu)
   ·cases hq
  ·cases hq
 ·split at hq
  ·rename_i l ht2 hz1
   cases hq
   have hX':=xP hX
   subst hX'
   refine⟨_,zcl G l,by simp [hz1],fun _=>by simp [Builtin.lenOf,zbd,size_mk],fun k hk=>?_⟩
   subst hz1
   simp only[Builtin.firstCells,zbd,Sem.run_pure,Result.ok.injEq,and_true,Nat.mul_one]
   rw[ByteArray.extract_mk]
   apply Array.ext'
   simp [List.map_take]
  ·cases hq
 ·cases hq
theorem zie{t t2:TypeId}{d x y:AV}{ud ux:Value}(hr:HR G B h w)(hm:zfs P t t2 d x h=some (y,h'))(hD:V G d ud)(hX:V G x ux)(ty:TypeId):
  ∃ w' u G',(Builtin.copy_ #[t,t2] ty #[ud,ux]).run P w=.ok u w'/\Step G G' B h' w w'/\V G' y u:=by
 unfold zfs at hm
 split at hm
 ·rename_i el ht
  split at hm
  ·rename_i z hz
   simp only at hm
   split at hm
   ·rename_i xs n hq
    cases hm
    obtain⟨vs,v1,v2,v3,v4⟩:=zf2 hr hq hX
    cases hD
    refine⟨w,_,G,?_,.refl hr,.int _ _⟩
    simp [Builtin.copy_,run_underlying ht,v3,run_sizeOf hz,v4 0 (Nat.zero_le _),goInt]
   ·rename_i loc off len sz ver clip xs n hq
    split at hm
    ·rename_i hsz
     subst hsz
     obtain⟨vs,v1,v2,v3,v4⟩:=zf2 hr hq hX
     split at hm
     ·rename_i hk
      cases hm
      have hk':Nat.min n len=0:=hk
      cases hD <;>
      (refine⟨w,_,G,?_,.refl hr,.int _ _⟩
       simp [Builtin.copy_,run_underlying ht,v3,run_sizeOf hz,goInt]
       first
        |(rw[hk',v4 0 (Nat.zero_le _)];simp [storeCells])
        |(rw[v4 0 (Nat.zero_le _)];simp [storeCells]))
     ·rename_i hk
      split at hm
      ·rename_i h2 hw2
       cases hm
       cases hD with
       | @sl _ _ _ _ _ cap _ r g1 g2 g3 g4 g5 g6 g7 g8 g9=>
        have hkn:Nat.min n len<=n:=Nat.min_le_left _ _
        obtain⟨w',hrun,hS⟩:=zcy (P:=P) hr hw2 g1 g2 g3 (v1.take (min n len*sz))
        refine⟨w',_,G,?_,hS,.int _ _⟩
        simp [Builtin.copy_,run_underlying ht,v3,run_sizeOf hz,goInt]
        rw[v4 (Nat.min n len) hkn]
        simp
        rw[show Nat.min n len=min n len from rfl,hrun]
        rfl
       |sl0=>exact absurd (by simp) hk
      ·cases hm
    ·cases hm
   ·cases hm
  ·cases hm
 ·cases hm
theorem zgk{t:TypeId}{x:AV}{ux:Value}(hr:HR G B h w)(hm:mclear P t x h=some h')(hX:V G x ux)(ty:TypeId):
  ∃ w',(Builtin.clear_ #[t] ty #[ux]).run P w=.ok (.tuple #[]) w'/\Step G G B h' w w':=by
 unfold mclear at hm
 split at hm
 ·rename_i el ht
  cases hm;cases hX
  exact⟨w,by simp [Builtin.clear_,run_underlying ht],.refl hr⟩
 ·rename_i el loc off len sz ver clip ht
  split at hm
  ·rename_i h0
   subst h0
   cases hm
   refine⟨w,?_,.refl hr⟩
   cases hX<;>simp [Builtin.clear_,run_underlying ht]
  ·rename_i h0
   split at hm
   ·rename_i z hz
    split at hm
    ·rename_i hsz
     cases hX with
     | @sl _ _ _ _ _ cap _ r g1 g2 g3 g4 g5 g6 g7 g8 g9=>
      obtain⟨zu,hzr,hzv,_⟩:=jv G hz
      have hzs:zu.cells.size=sz:=by have:=hzv.cells.length;rw[Array.length_toList] at this;omega
      have hz0:=zaE (m:=len*sz) hzv.cells (by omega)
      obtain⟨w',hrun,hS⟩:=zcy (P:=P) hr hm g1 g2 g3 hz0
      refine⟨w',?_,hS⟩
      have hzc:Builtin.zeroCells zu.cells len=(Array.range (len*sz)).map fun i=>zu.cells[i % zu.cells.size]!:=by
       unfold Builtin.zeroCells;rw[hzs]
      obtain⟨l,rfl⟩:∃ l,len=l+1:=⟨len-1,by omega⟩
      simp [Builtin.clear_,run_underlying ht,hzr,hzc]
      simp at hrun
      rw[hrun]
      rfl
     |sl0=>exact absurd rfl h0
    ·cases hm
   ·cases hm
 ·rename_i ht
  cases hm;cases hX
  exact⟨w,by simp [Builtin.clear_,run_underlying ht],.refl hr⟩
 ·rename_i kt et loc ht
  split at hm
  ·rename_i es hl
   cases hm
   rcases zfr hr (show zM (.map loc) h=some es by simp [zM,hl]) hX with⟨h0,_⟩|⟨loc',r,es',clock,h0,_,hg,hu,hw,hk1,hk2,hbn⟩
   ·cases h0
   cases h0
   subst hu
   have hS:=zaS (clock':=clock) (es2:=[]) (es2':=#[]) hr hl hg hw .nil .nil (fun e he=>by cases he)
   refine⟨_,?_,hS⟩
   simp [Builtin.clear_,run_underlying ht,MapKept.run_getObj_map hw,MapKept.run_setObj_map _ hw]
  ·cases hm
 ·cases hm
theorem j2{α:Type}{a:Array α}{x y:α}(h:a.toList=[x,y]):a=#[x,y]:=by apply Array.ext';simpa using h
theorem zcv{α:Type}{a:Array α}{x:α}(h:a.toList=[x]):a=#[x]:=by apply Array.ext';simpa using h
theorem zcg{u:TypeId}{loc lim v minv frz:Nat}{n:Int}{cells cs:List AV}{bs:List UInt8}{ats:Array TypeId}{pt:TypeId}{ua:Value}(hr:HR G B h w)(hloc:h[loc]?=some (.row cells v minv frz false (some u)))
  (hp:P.underlying pt=some (.pointer u)) (hc:P.cellsOf u=1) (hn:0<n) (hnm:n.toNat<=140737488355327) (hrd:rd h loc 0 v lim n.toNat=some cs) (hbs:wH cs=some bs) (hV:V G (.ptr loc 0 v lim) ua) (ty:TypeId)
  (hcut:∀ us:Array Value,Builtin.unsafeString_ ats ty us=Builtin.unsafeString_ #[pt,pt] ty us):
  ∃ w',(Builtin.unsafeString_ ats ty #[ua,.int .i64 n]).run P w=.ok (zbd bs) w'/\Step G G B (h.set loc (.row cells v minv (max frz n.toNat) false (some u))) w w':=by
 cases hV with
 | @ptr _ _ _ _ r g1 g2 g3=>
  obtain⟨b0,vs,hb,hgv,hv,hR⟩:=hr.get g1
  rw[hloc] at hb;cases hb
  rcases hR with rfl|hR
  ·simp at hv
  obtain⟨c,T,fr,q1,qt,q2,q3,q4⟩:=hR.cell v r hv hR.jm
  obtain⟨us,k1,k2,k3⟩:=zD hr hrd g1 g2 g3
  have hub:=zW hbs k1
  have hlen:bs.length=n.toNat:=by rw[<- k2,hub];simp
  have hl0:r.lo=0:=by omega
  have hlim:n.toNat<=lim:=by
   have hx:=hrd
   unfold rd at hx
   rw[hloc] at hx
   simp only at hx
   split at hx
   ·rename_i hh;omega
   ·cases hx
  obtain rfl:=qt _ rfl
  have hsh:w.shape? r.b=some (T,c.size):=by simp [World.shape?,q1]
  have hne:bs≠[]:=by intro hb;rw[hb] at hlen;simp at hlen;omega
  have hs0:=hR.sh0 v r hv
  have hoff:(0+r.sh-r.lo)=0:=by omega
  have hnn:(n:Int)=(bs.length:Int):=by omega
  refine⟨w.freeze ⟨r.b,0,none⟩ bs.length,?_,?_⟩
  ·rw[hcut,hoff,hnn]
   have hcell:∀ j x,bs[j]?=some x->w.cell? ((⟨r.b,0,none⟩:Addr).add j)=some (.int .u8 x.toNat):=fun j x hx=>by
    have hq:us[j]?=some (.int .u8 (x.toNat:Int)):=by rw[hub];simp [hx]
    have hq2:=k3 j _ hq
    rw[hoff] at hq2
    have hq3:(⟨r.b,0,none⟩:Addr).add j=⟨r.b,j,none⟩:=by cases j<;>simp [Addr.add]
    rw[hq3]
    simpa using hq2
   have h3:=hR.zlq v r hv
   exact Lib.run_unsafeString_row w pt pt ty T hp hc r.b c.size hsh bs hne (by omega) (by omega) hcell
  ·refine Step.freeze hr hloc g1 hR.jm (by omega) (Nat.le_max_left _ _) (by have h3:=hR.zlq v r hv;have h4:=hR.zdC;omega) (fun _ e=>e) fun c2 T2 fr2 rt e1 e2 e3 e4 e5 e6 e7=>?_
   rw[g1] at e2;cases e2
   rw[q1] at e1;cases e1
   have e8:=e7 rfl
   refine⟨fun j hj hjc=>?_,fun _=>.inr ?_⟩
   ·split
    ·show ¬ (0<=j/\j<0+bs.length);omega
    ·show ¬ (min fr.1 0<=j/\j<max fr.2 (0+bs.length));omega
   ·split
    ·show 0+bs.length+r.lo<=_;omega
    ·show max fr.2 (0+bs.length)+r.lo<=_;omega
theorem zpN{c:Call}(hr:HR G B h w)(he:∀ x v,e x=some v->V G v (ρ x))(hm:mop P e h (.call c)=some r):ROk P G B w (.call c) ρ r:=by
 obtain⟨cal,args,ats⟩:=c
 simp only[mop] at hm
 split at hm
 ·
  rename_i f as1 hq
  split at hm
  ·rename_i f' first cap hf
   cases hm
   have hargs:=jl he hq
   have hV:=he _ _ hf
   generalize hu:ρ f=u at hV
   cases hV with
   | @fn _ _ _ vf vc h1 h2=>
    refine⟨vf++args.toList.map ρ++vc,(h1.append hargs).append h2,?_⟩
    intros
    simp [execOp,resolve,hu,Deferred.ofValue,invoke]
    rw[show vf.toArray++(Array.map ρ args++vc.toArray)=(vf++(List.map ρ args.toList++vc)).toArray from by apply Array.ext';simp]
  ·rename_i loc hf
   cases hm
   have hargs:=jl he hq
   have hV:=he _ _ hf
   generalize hu:ρ f=u at hV
   cases hV with
   | @yld _ r h1=>
    refine⟨args.toList.map ρ,r,hargs,h1,?_⟩
    intros
    rw[show(args.toList.map ρ).toArray=args.map ρ from by apply Array.ext';simp]
    simp [execOp,resolve,hu,Deferred.ofValue,invoke]
  ·cases hm
 ·
  rename_i b as1 hq
  have hargs:=jl he hq
  have hma:(args.map ρ).toList=args.toList.map ρ:=by simp
  unfold qh at hm
  split at hm
  ·rename_i t ts x xs h1
   obtain⟨y,h2,rfl⟩:=qB hm
   generalize hl:args.toList.map ρ=l at hargs hma
   cases hargs with
   | @cons _ u _ us h3 h4=>
    obtain⟨z,hz,hrun⟩:=zjW (ty:=0) hr h2 h3
    refine ROk.quiet hr hz ?_
    intros
    rw[zg]
    simp only[builtin,Sem.run_bind]
    rw[hrun _ _ _ (by rw[<- Array.getElem?_toList,h1];rfl) (by rw[<- Array.getElem?_toList,hma];rfl)]
    rfl
  ·rename_i t t2 s x h1
   obtain⟨y,h',h2,rfl⟩:=kH hm
   generalize hl:args.toList.map ρ=l at hargs hma
   cases hargs with
   |cons h3 h4=>cases h4 with
    |cons h5 h6=>
     cases h6
     have ea:=j2 hma
     have et:=j2 h1
     obtain⟨w',u,G',hrun,hS,hV⟩:=ze0 hr h2 h3 h5 0
     refine⟨w',u,G',?_,hS,hV⟩
     intros
     rw[zg,ea,et]
     simp only[builtin,Sem.run_bind]
     have:∀ ty ty' (ar:Array Value),Builtin.append_ #[t,t2] ty ar=Builtin.append_ #[t,t2] ty' ar:=fun _ _ _=>rfl
     rw[this _ 0,hrun]
     rfl
  ·rename_i t t2 s x h1
   obtain⟨y,h',h2,rfl⟩:=kH hm
   generalize hl:args.toList.map ρ=l at hargs hma
   cases hargs with
   |cons h3 h4=>cases h4 with
    |cons h5 h6=>
     cases h6
     have ea:=j2 hma
     have et:=j2 h1
     obtain⟨w',u,G',hrun,hS,hV⟩:=zie hr h2 h3 h5 0
     refine⟨w',u,G',?_,hS,hV⟩
     intros
     rw[zg,ea,et]
     simp only[builtin,Sem.run_bind]
     have:∀ ty ty' (ar:Array Value),Builtin.copy_ #[t,t2] ty ar=Builtin.copy_ #[t,t2] ty' ar:=fun _ _ _=>rfl
     rw[this _ 0,hrun]
     rfl
  ·rename_i k a k' b
   cases hm
   generalize hl:args.toList.map ρ=l at hargs hma
   cases hargs with
   |cons h3 h4=>cases h4 with
    |cons h5 h6=>
     cases h6
     have:=qV h3
     subst this
     have:=qV h5
     subst this
     have ea:=j2 hma
     refine ROk.quiet hr (.int _ _) ?_
     intros
     rw[zg,ea]
     simp [builtin,Builtin.max_,Builtin.max2]
  ·rename_i k a k' b
   cases hm
   generalize hl:args.toList.map ρ=l at hargs hma
   cases hargs with
   |cons h3 h4=>cases h4 with
    |cons h5 h6=>
     cases h6
     have:=qV h3
     subst this
     have:=qV h5
     subst this
     have ea:=j2 hma
     refine ROk.quiet hr (.int _ _) ?_
     intros
     rw[zg,ea]
     simp [builtin,Builtin.min_,Builtin.min2]
  ·
   rename_i t ts x h1
   generalize hl:args.toList.map ρ=l at hargs hma
   cases hargs with
   |cons h3 h4=>
    cases h4
    have ea:=zcv hma
    have h0:ats[0]?=some t:=by rw[<- Array.getElem?_toList,h1];rfl
    split at hm
    ·rename_i e hu
     cases hm
     cases h3
     refine ROk.quiet hr (.int _ _) ?_
     intros
     rw[zg,ea]
     simp [builtin,Builtin.cap_,h0,run_underlying hu]
     rfl
    ·rename_i e loc off len sz ver hu
     cases hm
     cases h3 with
     |sl g1 g2 g3 g4 g5 g6 g7 g8 g9=>
      obtain rfl:=g6 rfl
      refine ROk.quiet hr (.int _ _) ?_
      intros
      rw[zg,ea]
      simp [builtin,Builtin.cap_,h0,run_underlying hu]
      rfl
     |sl0 g1 g2 g3 g6 g9=>
      refine ROk.quiet hr (.int _ _) ?_
      intros
      rw[zg,ea]
      simp [builtin,Builtin.cap_,h0,run_underlying hu]
      rfl
    ·rename_i e loc off len sz ver hu
     split at hm
     ·rename_i cells v0 _ _ _ _ hb0
      split at hm
      ·rename_i hc
       obtain⟨rfl,hc2⟩:=hc
       cases hm
       cases h3 with
       | @sl _ _ _ _ _ cap _ r g1 g2 g3 g4 g5 g6 g7 g8 g9=>
        have htop:r.top=cells.length:=by
         obtain⟨b1,vs,e1,e2,e3,e4⟩:=hr.get g1
         rw[hb0] at e1
         cases e1
         rcases e4 with rfl|e4
         ·cases e3
         ·exact(e4.tip r e3).1
        have h7:=g7 rfl
        have hlo:(cells.length-off)/sz<=cap:=Nat.div_le_of_le_mul (by rw[Nat.mul_comm];omega)
        refine ROk.quiet hr (.iv (m:=(cap:Int)) (by omega) (by simp only[maxLen] at g8;omega)) ?_
        intros
        rw[zg,ea]
        simp [builtin,Builtin.cap_,h0,run_underlying hu]
        rfl
       |sl0=>omega
      ·cases hm
     ·cases hm
    ·cases hm
  ·
   generalize hl:args.toList.map ρ=l at hargs hma
   cases hargs with
   |cons h3 h4=>
    cases h4
    have ea:=zcv hma
    split at hm
    ·cases hm
     cases h3
     refine ROk.quiet hr .zbf ?_
     intros
     rw[zg,ea]
     simp only[builtin,Sem.run_bind,Lib.run_unsafeSliceData_nil]
     rfl
    ·split at hm
     ·rename_i hlt
      cases hm
      cases h3 with
      | @sl _ _ _ _ _ cp _ _ g1 g2 g3 g4 g5 g6 g7 g8 g9=>
       have hcp:cp≠0:=by omega
       refine ROk.quiet hr (.ptr g1 g2 g3) ?_
       intros
       rw[zg,ea]
       simp only[builtin,Sem.run_bind,Lib.run_unsafeSliceData_row _ _ _ _ _ _ hcp]
       rfl
      |sl0 g1 g2 g3 g6 g9=>omega
     ·cases hm
    ·cases hm
  ·
   rename_i pt ts x n h1
   generalize hl:args.toList.map ρ=l at hargs hma
   cases hargs with
   |cons h3 h4=>cases h4 with
    |cons h5 h6=>
     cases h6
     have:=qV h5
     subst this
     have ea:=j2 hma
     have h0:ats[0]?=some pt:=by rw[<- Array.getElem?_toList,h1];rfl
     have hcut:∀ ty (us:Array Value),Builtin.unsafeString_ ats ty us=Builtin.unsafeString_ #[pt,pt] ty us:=by
      intro ty us
      unfold Builtin.unsafeString_
      rw[h0]
      rfl
     split at hm
     ·split at hm
      ·rename_i hn
       subst hn
       cases hm
       cases h3
       refine ROk.quiet hr (.str []) ?_
       intros
       rw[zg,ea]
       simp only[builtin,Sem.run_bind,hcut,Lib.run_unsafeString_none]
       rfl
      ·cases hm
     ·rename_i u loc off ver lim hp
      split at hm
      ·rename_i hn
       subst hn
       cases hm
       cases h3
       refine ROk.quiet hr (.str []) ?_
       intros
       rw[zg,ea]
       simp only[builtin,Sem.run_bind,hcut,Lib.run_unsafeString_none]
       rfl
      ·split at hm
       ·rename_i cells v minv frz T hloc
        split at hm
        ·rename_i hq
         obtain⟨rfl,rfl,hc1,hn0,hnm,rfl⟩:=hq
         split at hm
         ·rename_i cs hrd
          split at hm
          ·rename_i bs hbs
           cases hm
           obtain⟨w',hrun,hS⟩:=zcg hr hloc hp hc1 hn0 hnm hrd hbs h3 0 (hcut 0)
           refine⟨w',_,G,?_,hS,.str bs⟩
           intros
           rw[zg,ea]
           simp only[builtin,Sem.run_bind]
           have:∀ ty ty' (ar:Array Value),Builtin.unsafeString_ ats ty ar=Builtin.unsafeString_ ats ty' ar:=fun _ _ _=>rfl
           rw[this _ 0,hrun]
           rfl
          ·cases hm
         ·cases hm
        ·cases hm
       ·cases hm
     ·cases hm
  ·rename_i t x h1
   split at hm
   ·rename_i h' h2
    cases hm
    generalize hl:args.toList.map ρ=l at hargs hma
    cases hargs with
    |cons h3 h4=>
     cases h4
     have ea:=zcv hma
     have et:=zcv h1
     obtain⟨w',hrun,hS⟩:=zgk hr h2 h3 0
     refine⟨w',.tuple #[],G,?_,hS,.tup .nil⟩
     intros
     rw[zg,ea,et]
     simp only[builtin,Sem.run_bind]
     have:∀ ty ty' (ar:Array Value),Builtin.clear_ #[t] ty ar=Builtin.clear_ #[t] ty' ar:=fun _ _ _=>rfl
     rw[this _ 0,hrun]
     rfl
   ·cases hm
  ·rename_i t t2 m k h1
   split at hm
   ·rename_i h' h2
    cases hm
    generalize hl:args.toList.map ρ=l at hargs hma
    cases hargs with
    |cons h3 h4=>cases h4 with
     |cons h5 h6=>
      cases h6
      have ea:=j2 hma
      have et:=j2 h1
      obtain⟨w',hrun,hS⟩:=ziO (ty:=0) (t2:=t2) hr h2 h3 h5
      refine⟨w',.tuple #[],G,?_,hS,.tup .nil⟩
      intros
      rw[zg,ea,et]
      simp only[builtin,Sem.run_bind]
      have:∀ ty ty' (ar:Array Value),Builtin.delete_ #[t,t2] ty ar=Builtin.delete_ #[t,t2] ty' ar:=fun _ _ _=>rfl
      rw[this _ 0,hrun]
      rfl
   ·cases hm
  ·cases hm
 ·cases hm
theorem zoy{c:Call}(hr:HR G B h w)(he:∀ x v,e x=some v->V G v (ρ x))(hm:mop P e h (.defer c)=some r):ROk P G B w (.defer c) ρ r:=by
 obtain⟨cal,args,ats⟩:=c
 simp only[mop] at hm
 split at hm
 ·rename_i f as1 hq
  split at hm
  ·rename_i f' first cap hf
   cases hm
   have hargs:=jl he hq
   have hV:=he _ _ hf
   generalize hu:ρ f=u at hV
   cases hV with
   | @fn _ _ _ vf vc h1 h2=>
    refine⟨vf++args.toList.map ρ,vc,h1.append hargs,h2,?_⟩
    intros
    simp [execOp,resolve,hu,Deferred.ofValue]
  ·cases hm
 ·cases hm
theorem zaV(hr:HR G B h w)(he:∀ x v,e x=some v->V G v (ρ x))(hm:mop P e h op=some r):ROk P G B w op ρ r:=by
 cases op
 case move=>exact zpP hr he hm
 case assign=>exact zml hr he hm
 case pick=>exact zpR hr he hm
 case alloc=>exact zov hr hm
 case box=>exact zq2 hr he hm
 case build=>exact zox hr he hm
 case buildSlice=>exact zfV hr he hm
 case insert=>exact zmm hr he hm
 case load=>exact zpO hr he hm
 case store=>exact zoE hr he hm
 case nilCheck=>exact ziR hr he hm
 case binOp=>exact zow hr he hm
 case unOp=>exact zpS hr he hm
 case convert=>exact zkJ hr he hm
 case makeInterface=>exact zc4 hr he hm
 case makeFunc fn a b=>cases fn with
  |func f=>exact ziQ hr he hm
  |_=>simp [mop] at hm
 case makeMap t o=>cases o with
  |none=>exact zkL hr hm
  |some x=>simp [mop] at hm
 case makeSlice=>exact zg3 hr he hm
 case slice=>exact zoD hr he hm
 case fieldAddr=>exact zg1 hr he hm
 case field=>exact zoA hr he hm
 case indexAddr=>exact zg2 hr he hm
 case index=>exact zoB hr he hm
 case lookup=>exact zmn hr he hm
 case mapUpdate=>exact zg4 hr he hm
 case extract=>exact zkK hr he hm
 case typeAssert=>exact zfW hr he hm
 case range=>exact zoC hr he hm
 case next=>exact zpQ hr he hm
 case entry=>exact zoz hr he hm
 case call=>exact zpN hr he hm
 case defer=>exact zoy hr he hm
 all_goals simp [mop] at hm
end
inductive Dfd where
 |mark (loc:Nat)
 |call (f:FuncId) (args cap:List AV)
structure St where
 env:Arr AV
 h:za
 dl:List Dfd
 rnd:Option Nat
inductive Ex where
 |normal|ret|exit (id:Nat)|panic (v:AV)
inductive CR where
 |ret (v:AV) (h:za)
 |pan (v:AV) (h:za)
inductive OR where
 |ok (env:Arr AV) (h:za) (mk:List Dfd)
 |pan (v:AV) (env:Arr AV) (h:za) (mk:List Dfd)
def zdT(env:Arr AV)(d:Option Nat)(v:AV):Option (Arr AV):=
 match d with
 |none=>some env
 |some d=>if d<env.length then some (env.set d v) else none
def zge(h:za)(mk:List Dfd)(o:Option (Arr AV)):Option OR:=
 match o with
 |some env=>some (.ok env h mk)
 |none=>none
def isB:Option AV->Option Bool
 |some (.bool b)=>some b
 |_=>none
def yl(ops:Array Oper)(env:Arr AV)(j:Nat):Option Bool:=
 match ops[j]? with
 |some o=>match o.dst with
  |some t=>isB env[t]?
  |none=>none
 |none=>none
def want(ops:Array Oper)(o:Oper)(env:Arr AV):Bool:=
 match o.guard with
 |none=>true
 |some (j,b)=>yl ops env j==some b
def zbz:Op->Option Operand
 |.panic x=>some x
 |_=>none
def zcc(call:Cal->List AV->za->Option CR)(dst:Option Nat)(env:Arr AV)(h:za)(mk:List Dfd)(rnd:Option Nat):Rs->Option OR
 |.val v h'=>zge h' mk (zdT env dst v)
 |.unit h'=>zge h' mk (zdT env dst .undef)
 |.call f args=>match call f args h with
  |some (.ret v h')=>zge h' mk (zdT env dst v)
  |some (.pan v h')=>some (.pan v env h' mk)
  |none=>none
 |.dfr f args cap=>match rnd with
  |none=>zge h (.call f args cap::mk) (zdT env dst .undef)
  |some _=>none
def zau(P:Program)(call:Cal->List AV->za->Option CR)(o:Oper)(env:Arr AV)(h:za)(mk:List Dfd)(rnd:Option Nat):Option OR:=
 match zbz o.op with
 |some x=>match mev P env h x with
  |some (.ifc t v)=>some (.pan (.ifc t v) env h mk)
  |_=>none
 |none=>match mop P (mev P env h) h o.op with
  |some q=>zcc call o.dst env h mk rnd q
  |none=>none
def zeW(P:Program)(call:Cal->List AV->za->Option CR)(ops:Array Oper)(rnd:Option Nat):List Oper->Arr AV->za->List Dfd->Option OR
 | [],env,h,mk=>some (.ok env h mk)
 |o::l,env,h,mk=>
  match want ops o env with
  |true=>match zau P call o env h mk rnd with
   |some (.ok env' h' mk')=>zeW P call ops rnd l env' h' mk'
   |r=>r
  |false=>match zdT env o.dst .undef with
   |some env'=>zeW P call ops rnd l env' h mk
   |none=>none
def zjc(rnd:Option Nat):Option OR->Option (Ex×St)
 |some (.ok env h mk)=>some (.normal,⟨env,h,mk,rnd⟩)
 |some (.pan v env h mk)=>some (.panic v,⟨env,h,mk,rnd⟩)
 |none=>none
abbrev qc:=FuncId->Option (List AV->za->Option CR)
def MK(G:Gh):List Dfd->List Deferred->Prop
 | [],ds=>ds=[]
 |.mark loc::l,ds=>∃ r ds',G.at loc 0=some r/\ds={ target:=.collected r.b,args:=#[] }::ds'/\MK G l ds'
 |.call f args cap::l,ds=>∃ us vc ds',VL G args us/\VL G cap vc/\ds={ target:=.fn (.func f) vc.toArray,args:=us.toArray }::ds'/\MK G l ds'
theorem MK.le{G G':Gh}(hl:G.le G'):∀ {mk:List Dfd} {ds:List Deferred},MK G mk ds->MK G' mk ds
 | [],_,h=>h
 |.mark loc::l,_,⟨r,ds',h1,h2,h3⟩=>⟨r,ds',hl _ _ _ h1,h2,MK.le hl h3⟩
 |.call f args cap::l,_,⟨us,vc,ds',h1,h2,h3,h4⟩=>⟨us,vc,ds',h1.le hl,h2.le hl,h3,MK.le hl h4⟩
structure AR(G:Gh)(env:Arr AV)(mk:List Dfd)(a:Act):Prop where
 defers:MK G mk a.defers
 env:VL G env.toL a.tmps.toList
theorem AR.get{G:Gh}{env:Arr AV}{mk:List Dfd}{a:Act}(h:AR G env mk a){t:Nat}{v:AV}(hv:env[t]?=some v):∃ u,a.tmps.toList[t]?=some u/\V G v u:=h.env.get (Arr.zS.trans hv)
theorem AR.size{G:Gh}{env:Arr AV}{mk:List Dfd}{a:Act}(h:AR G env mk a):a.tmps.size=env.length:=by
 have:=h.env.length
 rwa [Array.length_toList,Arr.qz] at this
structure zbg(P:Program)(B:Nat)(W0:World)(G:Gh)(w:World):Prop where
 g:∀ g,g<P.globals.size->∃ r,G.at g 0=some r/\r.b=g/\r.lo=0/\r.sh=0
 low:∀ b,b<B->w.heap[b]?=W0.heap[b]?
theorem zbg.step{P:Program}{B:Nat}{W0:World}{G G':Gh}{w w':World}{h h':za}(hg:zbg P B W0 G w)(hr:HR G B h w)(hS:Step G G' B h' w w'):zbg P B W0 G' w':=
 ⟨fun g hlt=>let⟨r,h1,h2⟩:=hg.g g hlt;⟨r,hS.le _ _ _ h1,h2⟩,fun b hb=>by
  rw[<- hg.low b hb]
  refine hS.fr.low b (Nat.lt_of_lt_of_le hb hr.base) fun loc v r _ hB e=>?_
  omega⟩
theorem AR.le{G G':Gh}{env:Arr AV}{mk:List Dfd}{a:Act}(h:AR G env mk a)(hl:G.le G'):AR G' env mk a:=⟨h.defers.le hl,h.env.le hl⟩
def fen:Option Nat->Fence
 |none=>Fence.wide
 |some b=>Fence.wide.inRound b
def RN(G:Gh)(rnd b:Option Nat):Prop:=match rnd with
 |none=>b=none
 |some loc=>∃ r,G.at loc 0=some r/\b=some r.b
theorem RN.le{G G':Gh}{rnd b:Option Nat}(h:RN G rnd b)(hl:G.le G'):RN G' rnd b:=by
 cases rnd with
 |none=>exact h
 |some loc=>obtain⟨r,h1,h2⟩:=h;exact⟨r,hl _ _ _ h1,h2⟩
theorem zaI(b:Option Nat)(f:FuncId):(fen b).fn f:=by cases b<;>trivial
theorem zaH(b:Option Nat):(fen b).depth=none:=by cases b<;>rfl
theorem zjE(b:Option Nat):(fen b).round=b:=by cases b<;>rfl
theorem zaj{P:Program}{b:Option Nat}{n:Nat}{f:FuncId}{args:Array Value}{w:World}{R:Ending->World->Prop}(h:Calls P f args w R):CallsIn (fen b) n P f args w R:=by
 cases b with
 |none=>exact callsIn_wide.2 h
 |some b=>exact(callsIn_wide.2 h:CallsIn Fence.wide n P f args w R)
theorem zcI{P:Program}{b:Option Nat}{n l:Nat}{f:FuncId}{tmps:Array Value}{asg body:Code}{w:World}{R:Ending->World->Prop}(h:RoundIn Fence.wide n P l f tmps asg body w R):RoundIn (fen b) n P l f tmps asg body w R:=by
 cases b with
 |none=>exact h
 |some b=>exact h
def zrd(G:Gh)(e:Ex)(env:Arr AV)(mk:List Dfd)(x:Exit)(a:Act):Prop:=
 match e with
 |.normal=>x=.normal/\AR G env mk a
 |.ret=>x=.ret/\AR G env mk a
 |.exit id=>x=.exit id/\AR G env mk a
 |.panic v=>∃ u,V G v u/\x=.panic [{ v:=u,recovered:=false }]/\AR G env mk a
def zaF(G:Gh)(B:Nat)(w:World)(e:Ex)(st:St)(x:Exit)(a:Act)(w':World):Prop:=∃ G',Step G G' B st.h w w'/\zrd G' e st.env st.dl x a
def zb5(P:Program)(B:Nat)(W0:World)(run:Code->St->Option (Ex×St)):Prop:=
 ∀ c st e st',run c st=some (e,st')->∀ (G:Gh) (a:Act) (w:World) (b:Option Nat),AR G st.env st.dl a->HR G B st.h w->zbg P B W0 G w->RN G st.rnd b->c.wpIn (fen b) 0 P (zaF G B w e st') a w
def zi9(G:Gh)(B:Nat)(w:World)(r:CR)(e:Ending)(w':World):Prop:=
 match r with
 |.ret v h'=>∃ G',Step G G' B h' w w'/\∃ u,V G' v u/\e=.returned u
 |.pan v h'=>∃ G',Step G G' B h' w w'/\∃ u,V G' v u/\e=.panicked [{ v:=u,recovered:=false }]
def zb2(P:Program)(B:Nat)(W0:World)(f:FuncId)(args:List AV)(h:za)(r:CR):Prop:=
 ∀ (G:Gh) (us:List Value) (w:World),VL G args us->HR G B h w->zbg P B W0 G w ->
  (Calls P f us.toArray w (zi9 G B w r)/\Enters P f)\/∃ v h' u w' G',r=.ret v h'/\(callFunc f us.toArray).run P w=.ok (.value u) w'/\Step G G' B h' w w'/\V G' v u
def zmY(P:Program)(B:Nat)(W0:World)(loc:Nat)(args:List AV)(h:za)(r:CR):Prop:=
 ∀ (G:Gh) (us:List Value) (w:World) (rv:Ver),VL G args us->HR G B h w->zbg P B W0 G w->G.at loc 0=some rv ->
  ∃ L:Loop,w.heap[rv.b]?=some (.loop L)/\us.length=L.params.size/\RoundIn Fence.wide 0 P rv.b L.fn ((L.params.zip us.toArray).foldl (fun tmps (t,a)=>tmps.setIfInBounds t a) L.tmps) L.assign L.body w (zi9 G B w r)
def zbH(P:Program)(B:Nat)(W0:World)(call:Cal->List AV->za->Option CR):Prop:=∀ c args h r,call c args h=some r->match c with
 |.f f=>zb2 P B W0 f args h r
 |.y loc=>zmY P B W0 loc args h r
def zcz(P:Program)(B:Nat)(W0:World)(hk:qc):Prop:=∀ f g,hk f=some g->∀ args h r,g args h=some r->zb2 P B W0 f args h r
section
variable {P:Program} {B:Nat} {W0:World}
theorem xe{G:Gh}{env:Arr AV}{mk:List Dfd}{h:za}{a:Act}{w:World}(ha:AR G env mk a)(hr:HR G B h w)(hg:zbg P B W0 G w):∀ x v,mev P env h x=some v->V G v (a.eval x):=by
 intro x v hv
 cases x with
 |tmp t=>
  obtain⟨u,h1,h2⟩:=ha.get hv
  rw[Array.getElem?_toList] at h1
  simp only[Act.eval,Array.getD_eq_getD_getElem?,h1]
  exact h2
 |const c=>exact za0 G hv
 |global g=>
  simp only[mev] at hv
  split at hv
  ·rename_i hlt
   obtain⟨r,h1,h2,h3,h3s⟩:=hg.g g hlt
   have key:∀ lim,lim<=r.top->V G (.ptr g 0 0 lim) (a.eval (.global g)):=by
    intro lim hl
    have:=V.ptr (G:=G) (loc:=g) (off:=0) (ver:=0) (lim:=lim) (r:=r) h1 (by omega) hl
    rw[h2,h3,h3s] at this
    exact this
   split at hv
   ·rename_i cells minv frz ro tt hb
    cases hv
    obtain⟨b,vs,hb',hg',hv',hR⟩:=hr.get h1
    rw[hb] at hb';cases hb'
    rcases hR with rfl|hR
    ·simp at hv'
    ·exact key _ (Nat.le_of_eq (hR.tip r hv').1.symm)
   ·rename_i cells hb
    cases hv
    obtain⟨b,vs,hb',hg',hv',hR⟩:=hr.get h1
    rw[hb] at hb';cases hb'
    rcases hR with rfl|⟨r0,rfl,hl,ht,_⟩
    ·simp at hv'
    ·simp at hv'
     subst hv'
     exact key _ (by omega)
   ·cases hv;exact key 0 (Nat.zero_le _)
   ·cases hv
  ·cases hv
 |func f=>cases hv;exact .fn f .nil .nil
theorem jC{G:Gh}{env env':Arr AV}{mk:List Dfd}{a:Act}{d:Option Nat}{v:AV}{u:Value}(ha:AR G env mk a)(hs:zdT env d v=some env')(hv:V G v u):AR G env' mk (a.put d u):=by
 cases d with
 |none=>cases hs;exact ha
 |some d=>
  simp only[zdT] at hs
  split at hs
  ·rename_i hd
   cases hs
   refine⟨ha.defers,?_⟩
   simp only[Act.put,Array.toList_setIfInBounds]
   refine VL.za2 (by rw[Arr.qz,Arr.length_set,List.length_set,Array.length_toList];exact ha.size) fun i x y hx hy=>?_
   rw[Arr.zS,Arr.zw] at hx
   rw[List.getElem?_set] at hy
   split at hx
   ·rename_i hid
    rw[if_pos hid] at hy
    cases hx
    split at hy
    ·cases hy;exact hv
    ·cases hy
   ·rename_i hid
    rw[if_neg hid] at hy
    obtain⟨y',h1,h2⟩:=ha.get hx
    rw[h1] at hy;cases hy;exact h2
  ·cases hs
theorem zi7{G:Gh}{env:Arr AV}{mk:List Dfd}{a:Act}{ops:Array Oper}{o:Oper}(ha:AR G env mk a):Region.wanted o (yielded ops a.tmps)=want ops o env:=by
 have key:∀ j,yielded ops a.tmps j=yl ops env j:=by
  intro j
  unfold yielded yl
  cases ops[j]? with
  |none=>rfl
  |some q=>
   simp only[Option.bind_some]
   cases q.dst with
   |none=>rfl
   |some t=>
    simp only[Option.bind_some]
    cases hx:env[t]? with
    |none=>
     have:a.tmps[t]?=none:=by
      have hl:=ha.size
      have:=Arr.get_none hx
      exact Array.getElem?_eq_none (by omega)
     rw[this];rfl
    |some x=>
     obtain⟨u,h1,h2⟩:=ha.get hx
     rw[Array.getElem?_toList] at h1
     rw[h1]
     cases h2<;>rfl
 unfold Region.wanted want
 cases o.guard with
 |none=>rfl
 |some p=>obtain⟨j,b⟩:=p;simp only[key]
theorem zgO{call:Cal->List AV->za->Option CR}(hcall:zbH P B W0 call){G:Gh}{env:Arr AV}{mk:List Dfd}{rnd b:Option Nat}{h:za}{a:Act}{w:World}{o:Oper}{r:OR}(ha:AR G env mk a)(hr:HR G B h w)(hg:zbg P B W0 G w)(hb:RN G rnd b)
  (he:zau P call o env h mk rnd=some r) {K:Act->World->Prop} {Q:Exit->Act->World->Prop}
  (hok:∀ env' h' mk' G' a' w',r=.ok env' h' mk'->Step G G' B h' w w'->AR G' env' mk' a'->K a' w')
  (hpan:∀ v h' G' u w',r=.pan v env h' mk->Step G G' B h' w w'->V G' v u->Q (.panic [{ v:=u,recovered:=false }]) a w'):o.wpIn (fen b) 0 P a w K Q:=by
 obtain⟨dst,op,ty,pos,after,guard⟩:=o
 have hev:=xe ha hr hg
 unfold Oper.wpIn
 refine⟨fun f _=>zaI b f,?_⟩
 have main:∀ {q:Rs},mop P (mev P env h) h op=some q->zcc call dst env h mk rnd q=some r->Oper.uponIn (fen b) 0 P ⟨dst,op,ty,pos,after,guard⟩ a K Q ((Oper.semAt (fen b).round a.eval ⟨dst,op,ty,pos,after,guard⟩).run P w):=by
  intro q hq hres
  have hs:=zaV hr hev hq
  have hsem:(∀ f args cap,q≠.dfr f args cap)->Oper.semAt (fen b).round a.eval ⟨dst,op,ty,pos,after,guard⟩=execOp a.eval ⟨dst,op,ty,pos,after,guard⟩:=by
   intro hnd
   refine Oper.semAt_eq _ _ _ fun c hc=>?_
   simp only at hc
   subst hc
   simp only[mop] at hq
   split at hq
   ·split at hq
    ·cases hq;exact hnd _ _ _ rfl
    ·cases hq
   ·cases hq
  unfold zcc at hres
  cases q with
  |val v h'=>
   rw[hsem (fun _ _ _ e=>by cases e)]
   obtain⟨w',u,G',hrun,hS,hV⟩:=hs
   rw[hrun,Oper.uponIn_value]
   simp only[zge] at hres
   split at hres
   ·rename_i env' hset
    cases hres
    exact hok _ _ _ G' _ _ rfl hS (jC (ha.le hS.le) hset hV)
   ·cases hres
  |unit h'=>
   rw[hsem (fun _ _ _ e=>by cases e)]
   obtain⟨w',G',hrun,hS⟩:=hs
   rw[hrun,Oper.uponIn_skip]
   simp only[zge] at hres
   split at hres
   ·rename_i env' hset
    cases hres
    exact hok _ _ _ G' _ _ rfl hS (jC (ha.le hS.le) hset (.tup .nil))
   ·cases hres
  |dfr f args cap=>
   obtain⟨us,vc,h1,h2,hrun⟩:=hs
   simp only at hres
   cases rnd with
   |some _=>cases hres
   |none=>
    obtain rfl:b=none:=hb
    rw[zjE,Oper.semAt_none,hrun,Oper.uponIn_defer]
    simp only[zge] at hres
    split at hres
    ·rename_i env' hset
     cases hres
     exact hok _ _ _ G _ _ rfl (.refl hr) (jC ⟨⟨us,vc,_,h1,h2,rfl,ha.defers⟩,ha.env⟩ hset (.tup .nil))
    ·cases hres
  |call f args=>
   rw[hsem (fun _ _ _ e=>by cases e)]
   simp only at hres
   cases hc:call f args h with
   |none=>rw[hc] at hres;cases hres
   |some cr=>
    rw[hc] at hres
    have fin:∀ e w',zi9 G B w cr e w'->match e with
      |.returned v=>K (a.put dst v) w'
      |.panicked chain=>Q (.panic chain) a w'
      |.outgrown=>LetsOut Q:=by
     intro e w' hcr
     cases cr with
     |ret v h'=>
      obtain⟨G',hS,u,hv,rfl⟩:=hcr
      simp only[zge] at hres
      simp only
      split at hres
      ·rename_i env' hset
       cases hres
       exact hok _ _ _ G' _ _ rfl hS (jC (ha.le hS.le) hset hv)
      ·cases hres
     |pan v h'=>
      obtain⟨G',hS,u,hv,rfl⟩:=hcr
      simp only at hres |-
      cases hres
      exact hpan _ _ G' u _ rfl hS hv
    cases f with
    |f f=>
     obtain⟨us,hV,hrun⟩:=hs
     rcases hcall (.f f) args h cr hc G us w hV hr hg with⟨hC,hE⟩|⟨v,h',u,w',G',rfl,hv,hS,hV'⟩
     ·rw[hrun,hE,Oper.uponIn_enter]
      exact⟨(fun e=>by rw[zaH] at e;cases e),zaj (hC.mono fun e w' hcr=>by have q:=fin e w' hcr;cases e<;>exact q)⟩
     ·rw[hrun,hv,Oper.uponIn_value]
      exact fin (.returned u) w' ⟨G',hS,u,hV',rfl⟩
    |y loc=>
     obtain⟨us,rv,hV,hat,hrun⟩:=hs
     obtain⟨L,h1,h2,h3⟩:=hcall (.y loc) args h cr hc G us w rv hV hr hg hat
     rw[hrun,run_yield h1 (by simpa using h2),Oper.uponIn_round]
     exact⟨(fun e=>by rw[zaH] at e;cases e),zcI (h3.mono fun e w' hcr=>by have q:=fin e w' hcr;cases e<;>exact q)⟩
 unfold zau at he
 cases hp:zbz op with
 |some x=>
  simp only[hp] at he
  obtain rfl:op=.panic x:=by cases op<;>simp [zbz] at hp;subst hp;rfl
  split at he
  ·rename_i t v hx
   cases he
   have hV:=hev _ _ hx
   generalize hu:a.eval x=u at hV
   cases hV with
   | @ifc _ _ u' hv=>
    have hrun:(execOp a.eval ⟨dst,.panic x,ty,pos,after,guard⟩).run P w=.halt (.panic (.iface t u')) w:=by
     simp [execOp,hu,Instr.panic]
    rw[Oper.semAt_eq _ _ _ (fun c hc=>by cases hc),hrun,Oper.uponIn_panic]
    exact hpan _ _ G _ _ rfl (.refl hr) (.ifc t hv)
  ·cases he
 |none=>
  simp only[hp] at he
  split at he
  ·rename_i q hq;exact main hq he
  ·cases he
theorem zbu{call:Cal->List AV->za->Option CR}(hcall:zbH P B W0 call){ops:Array Oper}{rnd b:Option Nat}{Q:Exit->Act->World->Prop}:∀ {l:List Oper} {G:Gh} {env:Arr AV} {mk:List Dfd} {h:za} {a:Act} {w:World} {r:OR},AR G env mk a->HR G B h w->zbg P B W0 G w->RN G rnd b ->
  zeW P call ops rnd l env h mk=some r ->
  (∀ env' h' mk' G' a' w',r=.ok env' h' mk'->Step G G' B h' w w'->AR G' env' mk' a'->Q .normal a' w') ->
  (∀ v env' h' mk' G' u a' w',r=.pan v env' h' mk'->Step G G' B h' w w'->V G' v u->AR G' env' mk' a'->Q (.panic [{ v:=u,recovered:=false }]) a' w')->wpListIn (fen b) 0 P ops Q l a w
 | [],G,env,mk,h,a,w,r,ha,hr,hg,hb,he,hok,hpan=>by
  cases he
  exact hok _ _ _ G _ _ rfl (.refl hr) ha
 |o::l,G,env,mk,h,a,w,r,ha,hr,hg,hb,he,hok,hpan=>by
  unfold zeW at he
  unfold wpListIn
  rw[zi7 ha]
  cases hw:want ops o env with
  |true=>
   rw[hw] at he
   rw[if_pos rfl]
   simp only at he
   cases hx:zau P call o env h mk rnd with
   |none=>rw[hx] at he;cases he
   |some q=>
    rw[hx] at he
    refine zgO hcall ha hr hg hb hx (fun env' h' mk' G' a' w' hq hS hA=>?_) (fun v h' G' u w' hq hS hV=>?_)
    ·subst hq
     exact zbu hcall hA hS.hr (hg.step hr hS) (hb.le hS.le) he (fun env2 h2 mk2 G2 a2 w2 e2 S2 A2=>hok _ _ _ _ _ _ e2 (hS.trans S2) A2) (fun v2 env2 h2 mk2 G2 u2 a2 w2 e2 S2 V2 D2=>hpan _ _ _ _ _ _ _ _ e2 (hS.trans S2) V2 D2)
    ·subst hq
     cases he
     exact hpan _ _ _ _ _ _ _ _ rfl hS hV (ha.le hS.le)
  |false=>
   rw[hw] at he
   rw[if_neg (by simp)]
   refine⟨fun f _=>zaI b f,?_⟩
   simp only at he
   split at he
   ·rename_i env' hs
    exact zbu hcall (jC ha hs (.tup .nil)) hr hg hb he hok hpan
   ·cases he
end
inductive K3 where
 |hole (t:TypeId)|quiet|act
def kindOf(P:Program):Op->K3
 |.alloc t=>.hole t
 |.move _|.assign _|.pick .. | .build .. | .load .. | .nilCheck _|.binOp .. | .unOp .. | .makeInterface .. | .makeFunc .. | .slice .. | .fieldAddr .. | .field .. | .indexAddr .. | .index .. | .lookup .. | .extract ..=>.quiet
 |.convert _ d _=>match P.underlying d with
  |some (.slice _)=>.act
  |_=>.quiet
 |.call c=>match c.callee with
  |.builtin .len|.builtin .cap|.builtin .max|.builtin .min=>.quiet
  |_=>.act
 |_=>.act
theorem zkI{h h':za}{o:Option AV}{v:AV}(hm:rv h o=some (.val v h')):h'=h:=by
 obtain⟨y,_,e⟩:=qB hm
 cases e;rfl
theorem ze8{P:Program}{s d:TypeId}{x y:AV}{h h':za}(hd:∀ e,P.underlying d≠some (.slice e))(hm:wA P s d x h=some (y,h')):h'=h:=by
 unfold wA at hm
 repeat' split at hm
 all_goals first
  |(exact absurd (by assumption) (hd _))
  |(cases hm;rfl)
  |(cases hm;done)
theorem zio{P:Program}{e:Operand->Option AV}{h h':za}{op:Op}{v:AV}(hk:kindOf P op=.quiet)(hm:mop P e h op=some (.val v h')):h'=h:=by
 cases op<;>first|(cases hk;done)|skip
 case call c=>
  obtain⟨cal,args,ats⟩:=c
  cases cal with
  |builtin b=>
   cases b<;>first|(cases hk;done)|skip
   all_goals
    simp only[mop,qh] at hm
    repeat' split at hm
    all_goals first
     |exact zkI hm
     |(cases hm;rfl)
     |(cases hm;done)
     |(exfalso;simp_all;done)
  |_=>cases hk
 case convert s d x=>
  have hd:∀ e,P.underlying d≠some (.slice e):=by
   intro e he
   simp only[kindOf,he] at hk
   cases hk
  simp only[mop] at hm
  split at hm
  ·obtain⟨y,h2,h3,h4⟩:=kH hm
   cases h4
   exact ze8 hd h3
  ·cases hm
 all_goals simp only[mop] at hm
 all_goals repeat' split at hm
 all_goals first
  |exact zkI hm
  |(cases hm;rfl)
  |(cases hm;done)
  |(exfalso;simp_all;done)
def Ext(h h2:za):Prop:=∀ (l:Nat) (b:Blk),h[l]?=some b->h2[l]?=some b
theorem zfQ{h h2:za}{loc off ver lim n:Nat}{cs:List AV}(hx:Ext h h2)(q:rd h loc off ver lim n=some cs):rd h2 loc off ver lim n=some cs:=by
 unfold rd at q |-
 split at q<;>first|(rename_i hb;rw[hx _ _ hb];exact q)|cases q
theorem xC{e e':Operand->Option AV}(he:∀ y v,e y=some v->e' y=some v):∀ {l:List Operand} {vs:List AV},zdp e l=some vs->zdp e' l=some vs
 | [],vs,h=>h
 |y::l,vs,h=>by
  unfold zdp at h |-
  split at h
  ·rename_i h1 h2;rw[he _ _ h1,xC he h2];exact h
  ·cases h
theorem zdN{e e':Operand->Option AV}(he:∀ y v,e y=some v->e' y=some v):∀ {l:List (Nat×Operand)} {vs:List (Nat×AV)},qH e l=some vs->qH e' l=some vs
 | [],vs,h=>h
 |(i,y)::l,vs,h=>by
  unfold qH at h |-
  split at h
  ·rename_i h1 h2;rw[he _ _ h1,zdN he h2];exact h
  ·cases h
theorem zbo{e e':Operand->Option AV}(he:∀ y v,e y=some v->e' y=some v){o:Option Operand}{r:Option Int}(h:jX e o=some r):jX e' o=some r:=by
 cases o with
 |none=>exact h
 |some y=>
  unfold jX at h |-
  dsimp only at h |-
  split at h
  ·rename_i h1;rw[he _ _ h1];exact h
  ·cases h
theorem ziB{P:Program}{t:TypeId}{y v:AV}{lo hi mx:Option Int}{h h2:za}(hx:Ext h h2)(q:qi P t y lo hi mx h=some v):qi P t y lo hi mx h2=some v:=by
 unfold qi at q |-
 split at q
 ·rename_i h1;exact q
 ·rename_i h1;exact q
 ·rename_i h1;exact q
 ·rename_i h1
  split at q
  ·rename_i h2 h3;rw[h2,hx _ _ h3];exact q
  ·cases q
 ·cases q
theorem zfB{P:Program}{t:TypeId}{y v:AV}{lo hi mx:Option Int}{h h2:za}(hx:Ext h h2)(q:kC P t y lo hi mx h=some v):kC P t y lo hi mx h2=some v:=by
 unfold kC at q |-
 split at q
 ·rename_i h1
  split at q
  ·rename_i h2 h3;rw[h2,hx _ _ h3];exact q
  ·cases q
 ·cases q
theorem xi{P:Program}{t:TypeId}{y v:AV}{lo hi mx:Option Int}{h h2:za}(q:kC P t y lo hi mx h=some v):qi P t y lo hi mx h2=qi P t y lo hi mx h:=by
 unfold kC at q
 split at q
 ·rename_i h1;unfold qi;simp only[h1]
 ·cases q
theorem zgR{P:Program}{t:TypeId}{y v:AV}{lo hi mx:Option Int}{h h2:za}(hx:Ext h h2)(q:zaw P t y lo hi mx h=some v):zaw P t y lo hi mx h2=some v:=by
 unfold zaw at q |-
 split at q
 ·rename_i h1;rw[ziB hx h1];exact q
 ·rename_i h1;rw[xi (h2:=h2) q,h1];exact zfB hx q
theorem zfv{m:AV}{h h2:za}{es:List (AV×AV)}(hx:Ext h h2)(q:zM m h=some es):zM m h2=some es:=by
 unfold zM at q |-
 split at q
 ·exact q
 ·split at q
  ·rename_i h1;rw[hx _ _ h1];exact q
  ·cases q
 ·cases q
theorem zgQ{P:Program}{t:TypeId}{m k v:AV}{ok:Bool}{h h2:za}(hx:Ext h h2)(q:qN P t m k ok h=some v):qN P t m k ok h2=some v:=by
 unfold qN at q |-
 split at q
 ·split at q
  ·split at q
   ·rename_i h1 h2 h3 h4 h5;rw[zfv hx h5];exact q
   ·cases q
  ·cases q
 ·cases q
theorem zl6{P:Program}{t:TypeId}{y v:AV}{h h2:za}(hx:Ext h h2)(q:zkf P t y h=some v):zkf P t y h2=some v:=by
 unfold zkf at q |-
 split at q<;>first|exact q|skip
 ·split at q
  ·rename_i h2;rw[hx _ _ h2];exact q
  ·cases q
theorem zj2{P:Program}{s d:TypeId}{y v:AV}{h h' h2:za}(hx:Ext h h2)(hd:∀ e,P.underlying d≠some (.slice e))(q:wA P s d y h=some (v,h')):wA P s d y h2=some (v,h2):=by
 unfold wA at q |-
 split at q
 ·rename_i h1 h2;cases q;rfl
 ·rename_i h1 h2;cases q;rfl
 ·rename_i h2;exact absurd h2 (hd _)
 ·rename_i h1 h2
  split at q
  ·cases q;rfl
  ·cases q
 ·rename_i h1 h2
  split at q
  ·split at q
   ·rename_i h3;rw[zfQ hx h3]
    try dsimp only
    split at q
    ·cases q;rfl
    ·cases q
   ·cases q
  ·cases q
 ·rename_i h2;exact absurd h2 (hd _)
 ·rename_i h1 h2
  split at q
  ·rename_i h3;rw[hx _ _ h3]
   try dsimp only
   split at q
   ·rename_i h4;rw[if_pos h4];cases q;rfl
   ·cases q
  ·cases q
 ·rename_i h1 h2
  split at q
  ·rename_i h3;rw[hx _ _ h3]
   try dsimp only
   split at q
   ·rename_i h4;rw[if_pos h4];cases q;rfl
   ·cases q
  ·cases q
 ·cases q
theorem zat{P:Program}{env:Arr AV}{h h2:za}{o:Operand}{v:AV}(hx:Ext h h2)(q:mev P env h o=some v):mev P env h2 o=some v:=by
 cases o with
 |tmp t=>exact q
 |const c=>exact q
 |func f=>exact q
 |global g=>
  unfold mev at q |-
  dsimp only at q |-
  split at q
  ·rename_i hg
   rw[if_pos hg]
   split at q<;>first|(rename_i h1;rw[hx _ _ h1];exact q)|skip
   all_goals first|(cases q;done)|skip
   rename_i b hb1 hb2 h1
   rw[hx _ _ h1]
   split
   ·rename_i h3;cases h3;exact absurd rfl (hb1 _ _ _ _ _)
   ·rename_i h3;cases h3;exact absurd rfl (hb2 _)
   ·exact q
   ·rename_i h3;cases h3
  ·cases q
theorem zet{P:Program}{e e':Operand->Option AV}{h h2:za}{op:Op}{q:Rs}(hx:Ext h h2)(he:∀ y v,e y=some v->e' y=some v)(hk:kindOf P op=.quiet)(hm:mop P e h op=some q):
  ∃ v,q=.val v h/\mop P e' h2 op=some (.val v h2):=by
 have fin:∀ {o o':Option AV},rv h o=some q->(∀ v,o=some v->o'=some v)->∃ v,q=.val v h/\rv h2 o'=some (.val v h2):=fun {o o'} a b=>by
  obtain⟨v,h1,h2⟩:=qB a
  exact⟨v,h2,by rw[b v h1];rfl⟩
 cases op<;>first|(cases hk;done)|skip
 case move x=>exact fin hm fun v=>he _ _
 case assign x=>exact fin hm fun v=>he _ _
 case pick c a b=>
  unfold mop at hm |-
  dsimp only at hm |-
  split at hm
  ·rename_i h1;rw[he _ _ h1];exact fin hm fun v=>he _ _
  ·rename_i h1;rw[he _ _ h1];exact fin hm fun v=>he _ _
  ·cases hm
 case build t ps=>
  unfold mop at hm |-
  dsimp only at hm |-
  split at hm
  ·rename_i h1;rw[zdN he h1];exact fin hm fun v h=>h
  ·cases hm
 case load t x=>
  unfold mop at hm |-
  dsimp only at hm |-
  split at hm
  ·rename_i h1 h2 h3;rw[he _ _ h1,h2,h3];dsimp only
   split at hm
   ·rename_i h4;rw[zfQ hx h4];cases hm;exact⟨_,rfl,rfl⟩
   ·cases hm
  ·rename_i h1 h2;rw[he _ _ h1,h2];dsimp only
   split at hm
   ·rename_i h4;rw[zfQ hx h4];cases hm;exact⟨_,rfl,rfl⟩
   ·cases hm
  ·cases hm
 case nilCheck x=>
  unfold mop at hm |-
  dsimp only at hm |-
  split at hm
  ·cases hm
  ·cases hm
  ·cases hm
  ·rename_i v h1 h2 h3 h4
   cases hm
   refine⟨v,rfl,?_⟩
   rw[he _ _ h4]
   cases v<;>first|rfl|(exfalso;first|exact h1 rfl|exact h2 rfl|exact h3 rfl)
  ·cases hm
 case binOp o t x y p=>
  unfold mop at hm |-
  dsimp only at hm |-
  split at hm
  ·rename_i h1 h2;rw[he _ _ h1,he _ _ h2];dsimp only
   split at hm
   ·rename_i h3;rw[if_pos h3];exact fin hm fun v h=>h
   ·cases hm
  ·cases hm
 case unOp u t x=>
  unfold mop at hm |-
  dsimp only at hm |-
  split at hm
  ·rename_i h1;rw[he _ _ h1];cases hm;exact⟨_,rfl,rfl⟩
  ·rename_i h1;rw[he _ _ h1];cases hm;exact⟨_,rfl,rfl⟩
  ·rename_i h1;rw[he _ _ h1];cases hm;exact⟨_,rfl,rfl⟩
  ·cases hm
 case convert s d x=>
  have hd:∀ e,P.underlying d≠some (.slice e):=by
   intro e he
   simp only[kindOf,he] at hk
   cases hk
  unfold mop at hm |-
  dsimp only at hm |-
  split at hm
  ·rename_i h1;rw[he _ _ h1]
   obtain⟨y,k,h3,h4⟩:=kH hm
   cases h4
   have:=ze8 hd h3
   subst this
   exact⟨y,rfl,by dsimp only;rw[zj2 hx hd h3];rfl⟩
  ·cases hm
 case makeInterface t x=>
  unfold mop at hm |-
  dsimp only at hm |-
  split at hm
  ·cases hm
  ·rename_i h0 h1 h2;rw[h1,he _ _ h2];cases hm
   refine⟨_,rfl,?_⟩
   split
   ·rename_i h3;cases h3;exact absurd rfl (h0 _)
   ·rename_i h3 h4;cases h4;rfl
   ·rename_i h3 h4;exact absurd rfl (h4 _ _ rfl)
  ·cases hm
 case makeFunc t a b=>
  cases t<;>first|(cases hm;done)|skip
  unfold mop at hm |-
  dsimp only at hm |-
  split at hm
  ·rename_i h1 h2;rw[xC he h1,xC he h2];cases hm;exact⟨_,rfl,rfl⟩
  ·cases hm
 case slice t x lo hi mx=>
  unfold mop at hm |-
  dsimp only at hm |-
  split at hm
  ·rename_i h1 h2 h3 h4;rw[he _ _ h1,zbo he h2,zbo he h3,zbo he h4];exact fin hm fun v h=>zgR hx h
  ·cases hm
 case fieldAddr s x f=>
  unfold mop at hm |-
  dsimp only at hm |-
  split at hm
  ·rename_i h1;rw[he _ _ h1];exact fin hm fun v h=>h
  ·cases hm
 case field t x f=>
  unfold mop at hm |-
  dsimp only at hm |-
  split at hm
  ·rename_i h1 h2;rw[h1,he _ _ h2];dsimp only
   split at hm
   ·exact fin hm fun v h=>h
   ·cases hm
  ·cases hm
 case indexAddr t x i=>
  unfold mop at hm |-
  dsimp only at hm |-
  split at hm
  ·rename_i h1 h2;rw[he _ _ h1,he _ _ h2];exact fin hm fun v h=>h
  ·cases hm
 case index t x i=>
  unfold mop at hm |-
  dsimp only at hm |-
  split at hm
  ·rename_i h1 h2;rw[he _ _ h1,he _ _ h2];exact fin hm fun v h=>h
  ·cases hm
 case lookup t m k ok=>
  unfold mop at hm |-
  dsimp only at hm |-
  split at hm
  ·rename_i h1 h2;rw[he _ _ h1,he _ _ h2];exact fin hm fun v h=>zgQ hx h
  ·cases hm
 case extract x i=>
  unfold mop at hm |-
  dsimp only at hm |-
  split at hm
  ·rename_i h1;rw[he _ _ h1];exact fin hm fun v h=>h
  ·cases hm
 case call c=>
  obtain⟨cal,args,ats⟩:=c
  cases cal with
  |builtin b=>
   unfold mop at hm |-
   dsimp only at hm |-
   cases ha:zdp e args.toList with
   |none=>rw[ha] at hm;cases hm
   |some vs=>
    rw[ha] at hm
    rw[xC he ha]
    dsimp only at hm |-
    generalize ats.toList=ts at hm |-
    cases b<;>first|(cases hk;done)|skip
    case len=>
     cases ts with
     |nil=>cases hm
     |cons t ts=>cases vs with
      |nil=>cases hm
      |cons x vs=>exact fin hm fun v h=>zl6 hx h
    case cap=>
     cases ts with
     |nil=>cases hm
     |cons t ts=>cases vs with
      |nil=>cases hm
      |cons x vs=>cases vs with
       |cons y vs=>cases hm
       |nil=>
        simp only[qh] at hm |-
        split at hm
        ·cases hm;exact⟨_,rfl,rfl⟩
        ·cases hm;exact⟨_,rfl,rfl⟩
        ·split at hm
         ·rename_i h1;rw[hx _ _ h1];dsimp only
          split at hm
          ·rename_i h3;rw[if_pos h3];cases hm;exact⟨_,rfl,rfl⟩
          ·cases hm
         ·cases hm
        ·cases hm
    case max=>
     rcases ts with _|⟨t,_|⟨t',_|⟨t3,ts⟩⟩⟩<;>rcases vs with _|⟨a,_|⟨b,_|⟨c,l⟩⟩⟩<;>first|(cases hm;done)|(cases a<;>first|(cases hm;done)|(cases b<;>first|(cases hm;done)|(cases hm;exact⟨_,rfl,rfl⟩)))
    case min=>
     rcases ts with _|⟨t,_|⟨t',_|⟨t3,ts⟩⟩⟩<;>rcases vs with _|⟨a,_|⟨b,_|⟨c,l⟩⟩⟩<;>first|(cases hm;done)|(cases a<;>first|(cases hm;done)|(cases b<;>first|(cases hm;done)|(cases hm;exact⟨_,rfl,rfl⟩)))
  |_=>cases hk
theorem zc5{h:za}{mk:List Dfd}{o:Option (Arr AV)}{r:OR}(q:zge h mk o=some r):∃ env,o=some env/\r=.ok env h mk:=by
 cases o with
 |none=>cases q
 |some env=>cases q;exact⟨env,rfl,rfl⟩
def zm0(P:Program)(l:List Oper):Bool:=l.all fun o=>match kindOf P o.op with|.quiet=>true|_=>false
theorem quiet_of{P:Program}{o:Oper}(h:(match kindOf P o.op with|.quiet=>true|_=>false)=true):kindOf P o.op=.quiet:=by
 split at h
 ·assumption
 ·cases h
def qop(P:Program)(q:FuncId->Bool)(op:Op):Bool:=match kindOf P op with
 |.quiet=>true
 |_=>match op with
  |.call c=>match c.callee with
   |.value (.func f)=>q f
   |_=>false
  |_=>false
def zfN(P:Program)(q:FuncId->Bool):Code->Bool
 |.skip|.label _|.ret|.exit _=>true
 |.region _ ops false=>ops.toList.all fun o=>qop P q o.op
 |.region _ ops true=>zm0 P ops.toList
 |.seq a b|.cond _ a b=>zfN P q a&&zfN P q b
 |.block _ c|.loop c=>zfN P q c
 |_=>false
def QC(call:Cal->List AV->za->Option CR)(q:FuncId->Bool):Prop:=∀ f,q f=true->∀ args h r,call (.f f) args h=some r->∃ v,r=.ret v h/\∀ h2,Ext h h2->call (.f f) args h2=some (.ret v h2)
theorem zoa{P:Program}{call:Cal->List AV->za->Option CR}{q:FuncId->Bool}{o:Oper}{env:Arr AV}{h:za}{mk:List Dfd}{rnd:Option Nat}{r:OR}(hc:QC call q)(hq:qop P q o.op=true)
  (hm:zau P call o env h mk rnd=some r):∃ env',r=.ok env' h mk/\∀ h2,Ext h h2->zau P call o env h2 mk rnd=some (.ok env' h2 mk):=by
 have hp:zbz o.op=none:=by
  cases ho:o.op<;>first|rfl|(rw[ho] at hq;cases hq)
 unfold zau at hm |-
 rw[hp] at hm |-
 dsimp only at hm |-
 cases hk:kindOf P o.op with
 |quiet=>
  cases hmo:mop P (mev P env h) h o.op with
  |none=>rw[hmo] at hm;cases hm
  |some x=>
   rw[hmo] at hm
   obtain⟨v,rfl,_⟩:=zet (h2:=h) (fun _ _ h=>h) (fun _ _ h=>h) hk hmo
   obtain⟨env',h1,rfl⟩:=zc5 (show zge h mk (zdT env o.dst v)=some r from hm)
   refine⟨env',rfl,fun h2 hx=>?_⟩
   obtain⟨v',e1,e2⟩:=zet hx (fun y v=>zat hx) hk hmo
   cases e1
   rw[e2]
   show zge h2 mk (zdT env o.dst v)=_
   rw[h1];rfl
 |_=>
  unfold qop at hq
  rw[hk] at hq
  dsimp only at hq
  split at hq
  ·rename_i c hcop
   split at hq
   ·rename_i f hcal
    rw[hcop] at hm |-
    unfold mop at hm |-
    dsimp only at hm |-
    rw[hcal] at hm |-
    cases ha:zdp (mev P env h) c.args.toList with
    |none=>rw[ha] at hm;cases hm
    |some args=>
     rw[ha] at hm
     have hm':zcc call o.dst env h mk rnd (.call (.f f) ([]++args++[]))=some r:=hm
     unfold zcc at hm'
     dsimp only at hm'
     split at hm'
     ·rename_i v h' hcl
      obtain⟨v',e1,e2⟩:=hc f hq _ _ _ hcl
      cases e1
      obtain⟨env',h1,rfl⟩:=zc5 hm'
      refine⟨env',rfl,fun h2 hx=>?_⟩
      rw[xC (fun y v=>zat hx) ha]
      show zcc call o.dst env h2 mk rnd (.call (.f f) ([]++args++[]))=_
      unfold zcc
      dsimp only
      rw[e2 h2 hx]
      dsimp only
      rw[h1];rfl
     ·rename_i v h' hcl
      obtain⟨v',e1,e2⟩:=hc f hq _ _ _ hcl
      cases e1
     ·cases hm'
   ·cases hq
  ·cases hq
theorem zkh{P:Program}{call:Cal->List AV->za->Option CR}{q:FuncId->Bool}(hc:QC call q){ops:Array Oper}{mk:List Dfd}{rnd:Option Nat}{h:za}:∀ {l:List Oper} {env:Arr AV} {r:OR},(l.all fun o=>qop P q o.op)=true ->
  zeW P call ops rnd l env h mk=some r->∃ env',r=.ok env' h mk/\∀ h2,Ext h h2->zeW P call ops rnd l env h2 mk=some (.ok env' h2 mk)
 | [],env,r,hq,hm=>by cases hm;exact⟨env,rfl,fun h2 _=>rfl⟩
 |o::l,env,r,hq,hm=>by
  simp only[List.all_cons,Bool.and_eq_true] at hq
  unfold zeW at hm |-
  split at hm
  ·rename_i hw
   cases hme:zau P call o env h mk rnd with
   |none=>rw[hme] at hm;cases hm
   |some x=>
    rw[hme] at hm
    obtain⟨env1,rfl,h1⟩:=zoa hc hq.1 hme
    obtain⟨env',rfl,h3⟩:=zkh hc hq.2 hm
    refine⟨env',rfl,fun h2 hx=>?_⟩
    rw[h1 h2 hx]
    exact h3 h2 hx
  ·cases hs:zdT env o.dst .undef with
   |none=>rw[hs] at hm;cases hm
   |some env1=>
    rw[hs] at hm
    exact zkh hc hq.2 hm
end Go.Mx
