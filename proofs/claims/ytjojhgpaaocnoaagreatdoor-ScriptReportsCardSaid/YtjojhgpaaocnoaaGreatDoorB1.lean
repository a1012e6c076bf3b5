/- Machines and laws 1. -/
import Derived.Tactics
import Derived.LoopN
import Derived.Laws.Slices
import Derived.Laws.Strings
import Derived.Laws.Rows
import Derived.Laws.AppendOwn
import Derived.WalkKit
import Derived.WalkSpells
import Derived.WalkLawsBesides
import Derived.Laws.IdiomStrings
import Derived.KernelRfl
import Derived.Orders
import Derived.Deep.AppendSrc
import Derived.Deep.Upon
import Derived.Lib.Builder
import Derived.Lib.UnsafeStr
import Derived.MapKept
import Derived.Laws.StructEq
namespace Go.Gx
open Go
abbrev Env:=Nat->Value
def ev(ρ:Env):Operand->Value
 |.tmp t=>ρ t
 |.const v=>v
 |.global g=>.pointer (some ⟨g,0,none⟩)
 |.func f=>.func (.func f) #[] #[]
def znP(a:Act):Env:=fun t=>a.tmps.getD t undef
structure zo3(n:Nat)(ρ:Env)(a:Act):Prop where
 defers:a.defers=[]
 size:a.tmps.size=n
 env:znP a=ρ
def zrs(n:Nat)(Q:Exit->Env->World->Prop):Exit->Act->World->Prop:=fun e a w=>zo3 n (znP a) a/\Q e (znP a) w
def W(P:Program)(n:Nat)(c:Code)(Q:Exit->Env->World->Prop)(ρ:Env)(w:World):Prop:=
 ∀ a,zo3 n ρ a->c.wp P (zrs n Q) a w
section
variable {P:Program} {n:Nat} {Q:Exit->Env->World->Prop} {ρ:Env} {w:World}
end
theorem hao(w:World)(o:Obj)(i:Nat)(h:i<w.heap.size):(w.alloc o).heap[i]?=w.heap[i]?:=by
 show(w.heap.push o)[i]?=w.heap[i]?
 rw[Array.getElem?_push,if_neg (by omega)]
structure xw(K:List Nat)(w w':World):Prop where
 os:w'.os=w.os
 tape:w'.tape=w.tape
 output:w'.output=w.output
 size:w.heap.size<=w'.heap.size
 block:∀ b,b<w.heap.size->b ∉ K->w'.heap[b]?=w.heap[b]?
theorem xw.trans{K:List Nat}{a b c:World}(h:xw K a b)(k:xw K b c):xw K a c:=
 ⟨k.os.trans h.os,k.tape.trans h.tape,k.output.trans h.output,Nat.le_trans h.size k.size,
  fun i hi hk=>(k.block i (Nat.lt_of_lt_of_le hi h.size) hk).trans (h.block i hi hk)⟩
theorem xw.alloc(K:List Nat)(w:World)(o:Obj):xw K w (w.alloc o):=
 ⟨rfl,rfl,rfl,by simp,fun b hb _=>hao w o b hb⟩
theorem xw.drew(K:List Nat)(w:World):xw K w w.drew:=⟨rfl,rfl,rfl,Nat.le_refl _,fun _ _ _=>rfl⟩
structure Rp(τ:Type) where
 sz:Nat
 rel:List Nat->World->List Value->τ->Prop
 len:∀ {O w cs x},rel O w cs x->cs.length=sz
 one:∀ {O w cs x},rel O w cs x->∀ u ∈ cs,u.oneCell'=true
 mono:∀ {O O':List Nat} {w w':World} {cs x},rel O w cs x->(∀ b,b ∈ O'->b<w.heap.size->b ∈ O) ->
  (∀ b,b<w.heap.size->b ∉ O->w'.heap[b]?=w.heap[b]?)->w.heap.size<=w'.heap.size->rel O' w' cs x
def zbd(l:List UInt8):Value:=.string ⟨l.toArray⟩
section
variable {τ:Type} {r:Rp τ} {O O':List Nat} {w w':World}
end
inductive Fact:Type 1 where
 |imm {τ:Type} (r:Rp τ) (cs:List Value) (x:τ)
 |elem {τ:Type} (r:Rp τ) (a:Addr) (x:τ)
 |box (b:Nat) (cells:List Value) (T:TypeId)
 |row {τ:Type} (r:Rp τ) (T:TypeId) (v:Value) (l:List τ)
 |obj (b:Nat) (φ:Obj->Prop)
section
variable {O0 K O:List Nat} {w0 w w':World} {L:List Fact}
end
def cut{α:Type}(l:List α)(lo hi:Int):Option (List α):=if 0<=lo/\lo<=hi/\hi<=l.length then some ((l.drop lo.toNat).take (hi-lo).toNat) else none
def zb8(op:BinOp)(k:IntKind)(a b:Int):Int:=
 k.wrap (match op with|.and=>BitVec.ofInt k.bits a &&& BitVec.ofInt k.bits b|.or=>BitVec.ofInt k.bits a ||| BitVec.ofInt k.bits b|.xor=>BitVec.ofInt k.bits a ^^^ BitVec.ofInt k.bits b|_=>BitVec.ofInt k.bits a &&& ~~~ BitVec.ofInt k.bits b).toNat
section
variable {P:Program} {n:Nat} {Q:Exit->Env->World->Prop} {ρ:Env} {w:World} {ops:Array Oper} {rest:List Oper} {d:Nat} {ty:TypeId} {pos:String} {after:Array Edge}
 {x y c:Operand} {t t':TypeId}
section ints
variable {k:IntKind} {a b:Int}
end ints
section bytes
variable {a b:UInt8}
theorem u8c(a b:UInt8):((a.toNat:Int)==(b.toNat:Int))=(a==b):=by
 rw[Bool.eq_iff_iff];simp only[beq_iff_eq,Int.natCast_inj];exact⟨UInt8.toNat_inj.1,congrArg _⟩
theorem zqD(a:UInt8):BitVec.ofInt 8 (a.toNat:Int)=a.toBitVec:=by
 rw[BitVec.ofInt_natCast];simp
theorem zf7(a:UInt8):IntKind.u8.wrap (a.toNat:Int)=a.toNat:=by have:=a.toNat_lt;rw[IntKind.wrap_u8];omega
end bytes
theorem size_mk(a:List UInt8):(ByteArray.mk a.toArray).size=a.length:=by show a.toArray.size=_;simp
end
section
variable {P:Program} {n:Nat} {Q:Exit->Env->World->Prop} {ρ:Env} {w:World} {ops:Array Oper} {rest:List Oper} {d:Nat} {ty:TypeId} {pos:String} {after:Array Edge}
 {x y c:Operand} {t t':TypeId} {O0 K O:List Nat} {w0:World} {L:List Fact} {τ:Type} {r:Rp τ}
theorem zkE{T:TypeId}{a:Addr}{v:Value}(ha:∀ w,(isAgg T).run P w=.ok false w)(hc:w.cell? a=some v):(Instr.loadAt T (.pointer (some a))).run P w=.ok v w:=by
 simp [Instr.loadAt,Instr.sureAddr,loadVar,ha,hc]
theorem zkF{T:TypeId}{b off:Nat}{cs:List Value}(ha:∀ w,(isAgg T).run P w=.ok true w)(hz:∀ w,(sizeOf T).run P w=.ok cs.length w)
  (hc:∀ j,j<cs.length->w.cell? ⟨b,off+j,none⟩=cs[j]?):(Instr.loadAt T (.pointer (some ⟨b,off,none⟩))).run P w=.ok (.agg cs.toArray) w:=by
 have:=run_loadCells_list (P:=P) w ⟨b,off,none⟩ cs (fun j v hv=>by
  rw[Addr.add_lit,hc j (List.getElem?_eq_some_iff.1 hv).1];exact hv)
 simp [Instr.loadAt,Instr.sureAddr,loadVar,ha,hz,this]
theorem zg0{S:TypeId}{fs:Array Field}{f k:Nat}{fd:Field}{b off:Nat}(hs:P.underlying S=some (.struct fs))(hf:fs[f]?=some fd)(hk:∀ w,(sizeOf fd.type).run P w=.ok (k+1) w):
  (Instr.fieldAt S (.pointer (some ⟨b,off,none⟩)) f).run P w=.ok (.pointer (some ⟨b,off+fd.offset,none⟩)) w:=by
 simp [Instr.fieldAt,run_underlying hs,hf,Instr.sureAddr,fieldPlace,hk,Addr.add_lit]
def Enters(P:Program)(f:FuncId):Prop:=∀ args w,(callFunc f args).run P w=.ok (.enter f args) w
theorem Enters.mk{f:FuncId}{fn:Func}(hf:P.funcs[f]?=some fn)(hn:(fn.name == "runtime.NumGoroutine")=false) (hb:fn.body.isNone=false):Enters P f:=by
 intro args w
 have hn':¬ fn.name = "runtime.NumGoroutine" := by simpa using hn
 have hb':¬ fn.body=none:=by intro h;rw[h] at hb;cases hb
 simp [callFunc,hf,hn',hb']
end
section
variable {P:Program} {n:Nat} {Q:Exit->Env->World->Prop} {ρ:Env} {w:World} {ops:Array Oper} {rest:List Oper} {d:Nat} {ty:TypeId} {pos:String} {after:Array Edge}
 {x y c:Operand} {t t':TypeId} {O0 K O:List Nat} {w0:World} {L:List Fact} {τ:Type} {r:Rp τ}
end
section
variable {P:Program} {n:Nat} {Q:Exit->Env->World->Prop} {ρ:Env} {w w':World} {ops:Array Oper} {rest:List Oper} {d:Nat} {ty:TypeId} {pos:String} {after:Array Edge}
 {x y c:Operand} {t t':TypeId} {O0 K O:List Nat} {w0:World} {L:List Fact} {τ:Type} {r:Rp τ}
theorem xw.wZ(w:World)(o:Obj):xw [] w (w.drew.alloc o):=(xw.drew [] w).trans (xw.alloc [] _ _)
end
section
variable {P:Program} {n:Nat} {Q:Exit->Env->World->Prop} {ρ:Env} {w w':World} {ops:Array Oper} {rest:List Oper} {d:Nat} {ty:TypeId} {pos:String} {after:Array Edge}
 {x y c:Operand} {t t':TypeId} {O0 K O:List Nat} {w0:World} {L:List Fact} {τ:Type} {r:Rp τ}
section slicing
variable {a:Option Addr} {m cp:Nat} {l l':List τ} {lo hi:Int} {k k':IntKind} {e:TypeId} {xl xh:Operand}
end slicing
end
section
variable {P:Program} {n:Nat} {Q:Exit->Env->World->Prop} {ρ:Env} {w w':World} {ops:Array Oper} {rest:List Oper} {d:Nat} {ty:TypeId} {pos:String} {after:Array Edge}
 {x y c:Operand} {t t':TypeId} {O0 K O:List Nat} {w0:World} {L:List Fact} {τ:Type} {r:Rp τ}
end

def jc(a:Int):UInt8:=UInt8.ofNat (IntKind.u8.wrap a).toNat
section
variable {P:Program} {n:Nat} {Q:Exit->Env->World->Prop} {ρ:Env} {w w':World} {ops:Array Oper} {rest:List Oper} {d:Nat} {ty:TypeId} {pos:String} {after:Array Edge} {x:Operand} {t t':TypeId}
end
def RV(P:Program)(ρ:Env)(w:World):List ResultVar->List Value->Prop
 | [],vs=>vs=[]
 |.tmp t::rs,v::vs=>ρ t=v/\RV P ρ w rs vs
 |.cell a T::rs,v::vs=>(∃ ad,ρ a=.pointer (some ad)/\(loadVar T ad).run P w=.ok v w)/\RV P ρ w rs vs
 |_::_,[]=>False
def oneOf:List Value->Value
 | [v]=>v
 |vs=>.tuple vs.toArray
section
variable {P:Program} {n:Nat} {Q:Exit->Env->World->Prop} {ρ:Env} {w:World} {ops:Array Oper} {rest:List Oper} {d:Nat} {ty:TypeId} {pos:String} {after:Array Edge}
 {x y c:Operand} {t t':TypeId} {O0 K O:List Nat} {w0:World} {L:List Fact} {τ:Type} {r:Rp τ}
theorem za6(fn:Func)(rs:List ResultVar)(tmps:Array Value)(hr:fn.results=rs.toArray)(vs:List Value)(h:RV P (fun t=>tmps.getD t undef) w rs vs):
  (results fn tmps).run P w=.ok (oneOf vs) w:=by
 have h1:∀ (f:ResultVar->Sem Value),(∀ t,f (.tmp t)=pure (tmps.getD t undef))->(∀ a T,f (.cell a T)=do loadVar T (<- asAddr (tmps.getD a undef)))->∀ (rs:List ResultVar) (vs:List Value),
   RV P (fun t=>tmps.getD t undef) w rs vs->(List.mapM f rs).run P w=.ok vs w:=by
  intro f hf hf2 rs
  induction rs with
  |nil=>intro vs h;cases vs with
   |nil=>rfl
   |cons=>simp [RV] at h
  |cons r rs ih=>
   intro vs h
   cases vs with
   |nil=>cases r<;>simp [RV] at h
   |cons v vs=>
    cases r with
    |tmp t=>
     obtain⟨h1,h2⟩:=h
     simp only[List.mapM_cons,Sem.run_bind,Sem.run_pure,Result.andThen_ok,ih _ h2,hf,h1]
    |cell a T=>
     obtain⟨⟨ad,h1,h3⟩,h2⟩:=h
     simp only[List.mapM_cons,Sem.run_bind,Sem.run_pure,Result.andThen_ok,ih _ h2,hf2,h1,asAddr,h3]
 unfold results
 rw[hr,Sem.run_bind,List.mapM_toArray,Sem.run_map,h1 _ (fun _=>rfl) (fun _ _=>rfl) rs vs h]
 simp only[Result.andThen_ok,Sem.run_pure]
 match vs with
 | []=>simp [oneOf]
 | [t]=>simp [oneOf]
 |a::b::l=>simp [oneOf]
end
def jH(S:Nat->Bool)(i:Nat):Nat->Bool:=fun k=>if k=i then true else S k
def zcE(ops:List Oper):Bool:=ops.zipIdx.all fun p=>p.1.after.toList.all fun e=>!Region.binds .any e||decide (e.on<p.2)
section
variable {P:Program} {n:Nat} {Q:Exit->Env->World->Prop} {ρ:Env} {w:World}
theorem zjn{l:List Oper}(h:zcE l=true){i:Nat}{o:Oper}(hi:l[i]?=some o):∀ e ∈ o.after,Region.binds .any e=true->e.on<i:=by
 intro e he hbd
 unfold zcE at h
 rw[List.all_eq_true] at h
 have:=h (o,i) (by rw[List.mem_iff_getElem?];exact⟨i,by simp [List.getElem?_zipIdx,hi]⟩)
 rw[List.all_eq_true] at this
 have:=this e (by simpa using he)
 rw[hbd] at this
 simpa using this
theorem mem_ready{l:List Oper}{listed:Array Bool}{i:Nat}:i ∈ Region.ready .any l.toArray listed↔∃ o,l[i]?=some o/\listed.getD i true=false/\∀ e ∈ o.after,Region.binds .any e=true->listed.getD e.on false=true:=by
 unfold Region.ready
 simp only[List.mem_filter,List.mem_range,List.size_toArray,Bool.and_eq_true]
 constructor
 ·rintro⟨h1,h2,h3⟩
  refine⟨l[i],List.getElem?_eq_getElem h1,by simpa using h2,?_⟩
  have:l.toArray[i]?=some l[i]:=by simp [h1]
  rw[this] at h3
  simp only[Option.map_some,Option.getD_some,Array.all_eq_true_iff_forall_mem,Bool.or_eq_true,Bool.not_eq_true'] at h3
  intro e he hb
  rcases h3 e he with h|h
  ·rw[h] at hb;cases hb
  ·exact h
 ·rintro⟨o,ho,h2,h3⟩
  have hi:i<l.length:=(List.getElem?_eq_some_iff.1 ho).1
  refine⟨hi,by simpa using h2,?_⟩
  have:l.toArray[i]?=some o:=by simpa using ho
  rw[this]
  simp only[Option.map_some,Option.getD_some,Array.all_eq_true_iff_forall_mem,Bool.or_eq_true,Bool.not_eq_true']
  intro e he
  cases hb:Region.binds .any e with
  |false=>exact .inl rfl
  |true=>exact .inr (h3 e he hb)
theorem zmk{l:List Oper}(hb:zcE l=true){listed:Array Bool}(hs:listed.size=l.length)(h:Region.ready .any l.toArray listed=[]):∀ i,i<l.length->listed.getD i true=true:=by
 intro i
 induction i using Nat.strongRecOn with
 |_ i ih=>
  intro hi
  cases hl:listed.getD i true with
  |true=>rfl
  |false=>
   exfalso
   have:i ∈ Region.ready .any l.toArray listed:=by
    rw[mem_ready]
    refine⟨l[i],List.getElem?_eq_getElem hi,hl,fun e he hbd=>?_⟩
    have hlt:=zjn hb (List.getElem?_eq_getElem hi) e he hbd
    have:=ih e.on hlt (by omega)
    rw[Array.getD_eq_getD_getElem?,Array.getElem?_eq_getElem (by omega)] at this |-
    simpa using this
   rw[h] at this
   cases this
theorem zlR{listed:Array Bool}{i j:Nat}{b:Bool}(hi:i<listed.size):(listed.setIfInBounds i true).getD j b=if j=i then true else listed.getD j b:=by
 rw[Array.getD_eq_getD_getElem?,Array.getElem?_setIfInBounds]
 by_cases h:i=j
 ·subst h;simp [hi]
 ·rw[if_neg h,if_neg (fun e=>h e.symm),<- Array.getD_eq_getD_getElem?]
end
end Go.Gx
namespace Go.Gx
open Go
theorem zfY(S:Nat->Bool)(i:Nat):jH S i i=true:=by simp [jH]
end Go.Gx
namespace Go.Gx
open Go
end Go.Gx
namespace Go.Gx
open Go
section
variable {P:Program} {n:Nat} {Q:Exit->Env->World->Prop} {ρ:Env} {w:World} {ops:Array Oper} {rest:List Oper} {d:Nat} {ty:TypeId} {pos:String} {after:Array Edge}
 {x y c:Operand} {t t':TypeId} {O0 K O:List Nat} {w0:World} {L:List Fact} {τ:Type} {r:Rp τ}
end
section
variable {P:Program} {n:Nat} {Q:Exit->Env->World->Prop} {ρ:Env} {w w':World} {ops:Array Oper} {rest:List Oper} {d:Nat} {ty:TypeId} {pos:String} {after:Array Edge}
 {x y c:Operand} {t t':TypeId} {O0 K O:List Nat} {w0:World} {L:List Fact} {τ:Type} {r:Rp τ}
end
section
variable {P:Program} {n:Nat} {Q:Exit->Env->World->Prop} {ρ:Env} {w w':World} {ops:Array Oper} {rest:List Oper} {d:Nat} {ty:TypeId} {pos:String} {after:Array Edge}
 {x y c:Operand} {t t':TypeId} {O0 K O:List Nat} {w0:World} {L:List Fact} {τ:Type} {r:Rp τ}
end
section
variable {P:Program} {n:Nat} {Q:Exit->Env->World->Prop} {ρ:Env} {w w':World} {ops:Array Oper} {rest:List Oper} {d:Nat} {ty:TypeId} {pos:String} {after:Array Edge}
 {x y c m kx vx:Operand} {t t':TypeId} {O0 K O:List Nat} {w0:World} {L:List Fact} {τ:Type} {r:Rp τ}
end
section
variable {P:Program} {n:Nat} {Q:Exit->Env->World->Prop} {ρ:Env} {w w':World} {ops:Array Oper} {rest:List Oper} {d:Nat} {ty:TypeId} {pos:String} {after:Array Edge}
 {x y c:Operand} {t t':TypeId} {O0 K O:List Nat} {w0:World} {L:List Fact} {τ:Type} {r:Rp τ}
def zq4(x:UInt8)(n:Int):UInt8:=jc (((UInt8.toNat x:Nat):Int)*2 ^ (min n.toNat 8))
def zkY(x:UInt8)(n:Int):UInt8:=jc (((UInt8.toNat x/2 ^ (min n.toNat 8):Nat)):Int)
theorem zdi(a:Int):IntKind.u8.wrap a=((jc a).toNat:Int):=by
 unfold jc
 have h1:0<=IntKind.u8.wrap a/\IntKind.u8.wrap a<256:=by rw[IntKind.wrap_u8];omega
 rw[UInt8.toNat_ofNat_of_lt' (by show _<256;omega)];omega
end
end Go.Gx
