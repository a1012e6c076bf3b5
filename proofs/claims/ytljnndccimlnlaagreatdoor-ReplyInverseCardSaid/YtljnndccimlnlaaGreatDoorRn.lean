/- The reader's FETCH: its steps one by one, and what they make of a form. -/
import Derived.Test.YtljnndccimlnlaaGreatDoorRl
set_option linter.unusedVariables false
set_option linter.unusedSimpArgs false
set_option maxRecDepth 100000
set_option linter.unusedSectionVars false
namespace Go.Proofs.Model
open Go Go.Gx Go.Mx Go.Sx
abbrev RSt:=List UInt8×Int
abbrev zoI:=Option (RSt×Rsp×Unit)
def zxq:Rsp:=(0,(0,([],(0,([],(0,(0,(0,(0,[])))))))))
section
variable (N:Nat) (p1:Int)
def zob(s:RSt)(it:Int)(fl:UInt8)(uid sz:Int)(body:List UInt8):zoI:=some (s,(4,(p1,([],(0,([],(it,(fl,(uid,(sz,body))))))))),())
def zro(s:RSt):zoI:=some (s,zxq,())
def hdF(nm snm:List UInt8)(more:Bool)(s:RSt)(K0 K1:RSt->zoI):zoI:=
 cond more (Option.bind (zj N s) fun y=>(Option.bind (zk N y.2.1 snm) fun z=>(cond (!z.1) (K0 y.1) (Option.bind (za N (y.1.1,(IntKind.wrap .i64 (y.1.2+(1:Int)))) nm) fun w=>(cond (!w.2.1) (K0 w.1) (K1 w.1))))))
  (Option.bind (za N s nm) fun w=>(cond (!w.2.1) (K0 w.1) (K1 w.1)))
def f16(it:Int)(fl:UInt8)(uid sz:Int)(s:RSt):zoI:=hdF N [66,79,68,89,91,93,32] [32,66,79,68,89,91,93,32] (it != 0) s (fun s=>zob p1 s it fl uid sz [])
 (fun s=>Option.bind (zm N s.1 s.2) fun y=>cond y.2.2.1 (cond (!y.2.2.1) (zro (s.1,y.2.1)) (zob p1 (s.1,y.2.1) (zd .or .i64 it 16) fl uid sz y.1)) (cond (!y.2.2.1) (zro s) (zob p1 s (zd .or .i64 it 16) fl uid sz [])))
def f4(it:Int)(fl:UInt8)(uid:Int)(s:RSt):zoI:=hdF N [82,70,67,56,50,50,46,83,73,90,69,32] [32,82,70,67,56,50,50,46,83,73,90,69,32] (it != 0) s (fun s=>f16 N p1 it fl uid 0 s)
 (fun s=>Option.bind (zr N s) fun y=>cond (!y.2.2.1) (zro y.1) (f16 N p1 (zd .or .i64 it 4) fl uid y.2.1 y.1))
def f2(it:Int)(fl:UInt8)(s:RSt):zoI:=hdF N [85,73,68,32] [32,85,73,68,32] (it != 0) s (fun s=>f4 N p1 it fl 0 s)
 (fun s=>Option.bind (zr N s) fun y=>cond (!y.2.2.1) (zro y.1) (f4 N p1 (zd .or .i64 it 2) fl y.2.1 y.1))
def f1(s:RSt):zoI:=hdF N [70,76,65,71,83,32] [] false s (fun s=>f2 N p1 0 0 s)
 (fun s=>Option.bind (zA N s [41]) fun y=>cond (!y.2.2.1) (zro y.1) (cond (decide (List.length y.2.1+List.length ([41]:List UInt8)<4611686018427387904)) (Option.bind (wK N (y.2.1++[41])) fun z=>cond (!z.2.1) (zro y.1) (f2 N p1 1 z.1 y.1)) none))
theorem zis(s:RSt):zV N s p1=f1 N p1 s:=by kernel_rfl
end
section
variable {N:Nat} {b:List UInt8} (hb:b.length<=100000) {K0 K1:RSt->zoI} {nm:List UInt8} (hn:nm.length<=100)
include hb hn
theorem zjm{i:Nat}{r:List UInt8}{snm:List UInt8}(h:At b i (nm++r)):hdF N nm snm false (b,(i:Int)) K0 K1=K1 (b,((i+nm.length:Nat):Int)):=by
 unfold hdF
 rw[cond_false,zcl N hb h (by omega)];rfl
theorem zgM{i:Nat}{r:List UInt8}{snm:List UInt8}(h:At b i r)(hp:pre nm r=false):hdF N nm snm false (b,(i:Int)) K0 K1=K0 (b,(i:Int)):=by
 unfold hdF
 rw[cond_false,zaF N hb h (by omega) hp];rfl
theorem zl6{i:Nat}{r:List UInt8}(h:At b i (32::(nm++r))):hdF N nm (32::nm) true (b,(i:Int)) K0 K1=K1 (b,((i+1+nm.length:Nat):Int)):=by
 unfold hdF
 have hl:=h.len
 simp only[List.length_cons,List.length_append] at hl
 have h2:At b (i+1) (nm++r):=At.app (s:=[32]) h
 rw[cond_true,zaE N h]
 simp only[Option.bind_some,zfo]
 rw[show pre (32::nm) (32::(nm++r))=true from zcD.2 ⟨r,rfl⟩,wri (by omega) (by omega),show((i:Int)+1)=((i+1:Nat):Int) by omega,zcl N hb h2 (by omega)]
 rfl
theorem zjn{i:Nat}{r:List UInt8}{snm:List UInt8}(h:At b i r)(hp:pre snm r=false):hdF N nm snm true (b,(i:Int)) K0 K1=K0 (b,(i:Int)):=by
 unfold hdF
 rw[cond_true,zaE N h]
 simp only[Option.bind_some,zfo,hp]
 rfl
end
theorem zpU{c:UInt8}{t:List UInt8}:∀ {p:List UInt8},(∀ x ∈ p,x≠c)->posOf c (p++c::t)=some p.length
 | [],_=>by unfold posOf;simp
 |x::p,h=>by
  have ih:=zpU (t:=t) (p:=p) fun y hy=>h y (List.mem_cons_of_mem _ hy)
  have hx:(x==c)=false:=by rw[beq_eq_false_iff_ne];exact h x List.mem_cons_self
  rw[List.cons_append]
  unfold posOf
  rw[hx,ih];rfl
theorem ztd{x c:UInt8}(h:zbx x=true)(hc:zbx c=false):x≠c:=fun e=>by rw[e,hc] at h;cases h
theorem zwk{b:List UInt8}{j:Nat}{body t:List UInt8}(hl:body.length<=65536)(h:At b j (ze9 body++t)):zru b j=some (body,((j+(ze9 body).length:Nat):Int),true,()):=by
 unfold ze9 at h
 have h0:At b (j+1) (dec body.length++125::([13,10]++body++t)):=by
  have:=At.app (s:=[123]) (r:=dec body.length++[125,13,10]++body++t) (by simpa using h)
  simpa using this
 have hd:=wF body.length
 have h1:At b (j+1+(dec body.length).length) (125::([13,10]++body++t)):=h0.app
 have h2:At b (j+1+(dec body.length).length+1) ([13,10]++body++t):=At.app (s:=[125]) h1
 have h3:At b (j+1+(dec body.length).length+3) (body++t):=At.app (s:=[13,10]) (r:=body++t) (by simpa using h2)
 have hlen:=h3.len
 rw[List.length_append] at hlen
 unfold zru
 rw[h0.dr,zpU (p:=dec body.length) fun x hx=>ztd (zfi 10 _ x hx) (by decide)]
 dsimp only
 have hs:slice b (j+1) (j+1+(dec body.length).length)=dec body.length:=by
  unfold slice;rw[h0.dr,Nat.add_sub_cancel_left,List.take_left]
 rw[hs,zgP (by omega)]
 dsimp only
 have g1:b[j+1+(dec body.length).length+1]?=some 13:=by
  have:(b.drop (j+1+(dec body.length).length+1))[0]?=some 13:=by rw[h2.dr];rfl
  rw[List.getElem?_drop] at this;simpa using this
 have g2:b[j+1+(dec body.length).length+2]?=some 10:=by
  have:(b.drop (j+1+(dec body.length).length+1))[1]?=some 10:=by rw[h2.dr];rfl
  rw[List.getElem?_drop] at this;simpa using this
 rw[if_pos ⟨hl,g1,g2,by omega⟩]
 have hs2:slice b (j+1+(dec body.length).length+3) (j+1+(dec body.length).length+3+body.length)=body:=by
  unfold slice;rw[h3.dr,Nat.add_sub_cancel_left,List.take_left]
 rw[hs2]
 have:j+1+(dec body.length).length+3+body.length=j+(ze9 body).length:=by unfold ze9;simp only[List.length_append,List.length_cons,List.length_nil];omega
 rw[this]
theorem zwM{b:List UInt8}(hb:b.length<=100000){j:Nat}{body t:List UInt8}(hl:body.length<=65536)(h:At b j (ze9 body++t)):zm 200000 b (j:Int)=some (body,((j+(ze9 body).length:Nat):Int),true,()):=by
 have h':At b j (123::(dec body.length++[125,13,10]++body++t)):=by unfold ze9 at h;simpa using h
 obtain⟨hi,hc⟩:=h'.get
 rw[zkB 200000 b hb (by omega) j hi hc]
 exact zwk hl h
end Go.Proofs.Model
