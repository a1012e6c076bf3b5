/- The reader's FETCH: its steps one by one, and what they make of a form. -/
import Derived.Test.YtokiphiakdfipaaGreatDoorRl
set_option linter.unusedVariables false
set_option linter.unusedSimpArgs false
set_option maxRecDepth 100000
set_option linter.unusedSectionVars false
namespace Go.Proofs.Model
open Go Go.Gx Go.Mx Go.Sx
abbrev RSt:=List UInt8×Int
abbrev zoa:=Option (RSt×Rsp×Unit)
def zwo:Rsp:=(0,(0,([],(0,([],(0,(0,(0,(0,[])))))))))
section
variable (N:Nat) (p1:Int)
def znz(s:RSt)(it:Int)(fl:UInt8)(uid sz:Int)(body:List UInt8):zoa:=some (s,(4,(p1,([],(0,([],(it,(fl,(uid,(sz,body))))))))),())
def zro(s:RSt):zoa:=some (s,zwo,())
def hdF(nm snm:List UInt8)(more:Bool)(s:RSt)(K0 K1:RSt->zoa):zoa:=
 cond more (Option.bind (zg N s) fun y=>(Option.bind (zj N y.2.1 snm) fun z=>(cond (!z.1) (K0 y.1) (Option.bind (za N (y.1.1,(IntKind.wrap .i64 (y.1.2+(1:Int)))) nm) fun w=>(cond (!w.2.1) (K0 w.1) (K1 w.1))))))
  (Option.bind (za N s nm) fun w=>(cond (!w.2.1) (K0 w.1) (K1 w.1)))
def f16(it:Int)(fl:UInt8)(uid sz:Int)(s:RSt):zoa:=hdF N [66,79,68,89,91,93,32] [32,66,79,68,89,91,93,32] (it != 0) s (fun s=>znz p1 s it fl uid sz [])
 (fun s=>Option.bind (zk N s.1 s.2) fun y=>cond y.2.2.1 (cond (!y.2.2.1) (zro (s.1,y.2.1)) (znz p1 (s.1,y.2.1) (zd .or .i64 it 16) fl uid sz y.1)) (cond (!y.2.2.1) (zro s) (znz p1 s (zd .or .i64 it 16) fl uid sz [])))
def f4(it:Int)(fl:UInt8)(uid:Int)(s:RSt):zoa:=hdF N [82,70,67,56,50,50,46,83,73,90,69,32] [32,82,70,67,56,50,50,46,83,73,90,69,32] (it != 0) s (fun s=>f16 N p1 it fl uid 0 s)
 (fun s=>Option.bind (zn N s) fun y=>cond (!y.2.2.1) (zro y.1) (f16 N p1 (zd .or .i64 it 4) fl uid y.2.1 y.1))
def f2(it:Int)(fl:UInt8)(s:RSt):zoa:=hdF N [85,73,68,32] [32,85,73,68,32] (it != 0) s (fun s=>f4 N p1 it fl 0 s)
 (fun s=>Option.bind (zn N s) fun y=>cond (!y.2.2.1) (zro y.1) (f4 N p1 (zd .or .i64 it 2) fl y.2.1 y.1))
def f1(s:RSt):zoa:=hdF N [70,76,65,71,83,32] [] false s (fun s=>f2 N p1 0 0 s)
 (fun s=>Option.bind (zw N s [41]) fun y=>cond (!y.2.2.1) (zro y.1) (cond (decide (List.length y.2.1+List.length ([41]:List UInt8)<4611686018427387904)) (Option.bind (j0 N (y.2.1++[41])) fun z=>cond (!z.2.1) (zro y.1) (f2 N p1 1 z.1 y.1)) none))
theorem zhT(s:RSt):zI N s p1=f1 N p1 s:=by kernel_rfl
end
section
variable {N:Nat} {b:List UInt8} (hb:b.length<=100000) {K0 K1:RSt->zoa} {nm:List UInt8} (hn:nm.length<=100)
include hb hn
theorem ziO{i:Nat}{r:List UInt8}{snm:List UInt8}(h:At b i (nm++r)):hdF N nm snm false (b,(i:Int)) K0 K1=K1 (b,((i+nm.length:Nat):Int)):=by
 unfold hdF
 rw[cond_false,zbM N hb h (by omega)];rfl
theorem zgj{i:Nat}{r:List UInt8}{snm:List UInt8}(h:At b i r)(hp:pre nm r=false):hdF N nm snm false (b,(i:Int)) K0 K1=K0 (b,(i:Int)):=by
 unfold hdF
 rw[cond_false,xu N hb h (by omega) hp];rfl
theorem zlr{i:Nat}{r:List UInt8}(h:At b i (32::(nm++r))):hdF N nm (32::nm) true (b,(i:Int)) K0 K1=K1 (b,((i+1+nm.length:Nat):Int)):=by
 unfold hdF
 have hl:=h.len
 simp only[List.length_cons,List.length_append] at hl
 have h2:At b (i+1) (nm++r):=At.app (s:=[32]) h
 rw[cond_true,xr N h]
 simp only[Option.bind_some,zeY]
 rw[show pre (32::nm) (32::(nm++r))=true from zb4.2 ⟨r,rfl⟩,wri (by omega) (by omega),show((i:Int)+1)=((i+1:Nat):Int) by omega,zbM N hb h2 (by omega)]
 rfl
theorem ziP{i:Nat}{r:List UInt8}{snm:List UInt8}(h:At b i r)(hp:pre snm r=false):hdF N nm snm true (b,(i:Int)) K0 K1=K0 (b,(i:Int)):=by
 unfold hdF
 rw[cond_true,xr N h]
 simp only[Option.bind_some,zeY,hp]
 rfl
theorem zqW{snm:List UInt8}{more:Bool}{Q:zoa->Prop}{i:Nat}(hi:i<=b.length)(h0:∀ j:Nat,j<=b.length->Q (K0 (b,(j:Int))))(h1:∀ j:Nat,j<=b.length->Q (K1 (b,(j:Int))))(hs:more=true->snm≠[]):Q (hdF N nm snm more (b,(i:Int)) K0 K1):=by
 unfold hdF
 have sk:∀ j:Nat,j<=b.length->Q (Option.bind (za N (b,(j:Int)) nm) fun w=>(cond (!w.2.1) (K0 w.1) (K1 w.1))):=fun j hj=>by
  obtain⟨k,hk,ok,e⟩:=xE N hb hj nm (by omega)
  rw[e]
  cases ok with
  |true=>exact h1 k hk
  |false=>exact h0 k hk
 cases more with
 |false=>exact sk i hi
 |true=>
  have h:At b i (b.drop i):=⟨hi,rfl⟩
  rw[cond_true,xr N h]
  simp only[Option.bind_some,zeY]
  cases hp:pre snm (b.drop i) with
  |false=>exact h0 i hi
  |true=>
   obtain⟨t,ht⟩:=zb4.1 hp
   have hl:(b.drop i).length=b.length-i:=List.length_drop
   have hs:=hs rfl
   have:0<snm.length:=by cases snm with|nil=>exact absurd rfl hs|cons=>simp
   rw[ht,List.length_append] at hl
   simp only[Bool.not_true,cond_false]
   rw[wri (by omega) (by omega),show((i:Int)+1)=((i+1:Nat):Int) by omega]
   exact sk (i+1) (by omega)
end
theorem zpo{c:UInt8}{t:List UInt8}:∀ {p:List UInt8},(∀ x ∈ p,x≠c)->posOf c (p++c::t)=some p.length
 | [],_=>by unfold posOf;simp
 |x::p,h=>by
  have ih:=zpo (t:=t) (p:=p) fun y hy=>h y (List.mem_cons_of_mem _ hy)
  have hx:(x==c)=false:=by rw[beq_eq_false_iff_ne];exact h x List.mem_cons_self
  rw[List.cons_append]
  unfold posOf
  rw[hx,ih];rfl
theorem zsf{x c:UInt8}(h:zaM x=true)(hc:zaM c=false):x≠c:=fun e=>by rw[e,hc] at h;cases h
theorem zu8{b:List UInt8}{j:Nat}{body t:List UInt8}(hl:body.length<=65536)(h:At b j (ze0 body++t)):zq5 b j=some (body,((j+(ze0 body).length:Nat):Int),true,()):=by
 unfold ze0 at h
 have h0:At b (j+1) (dec body.length++125::([13,10]++body++t)):=by
  have:=At.app (s:=[123]) (r:=dec body.length++[125,13,10]++body++t) (by simpa using h)
  simpa using this
 have hd:=ju body.length
 have h1:At b (j+1+(dec body.length).length) (125::([13,10]++body++t)):=h0.app
 have h2:At b (j+1+(dec body.length).length+1) ([13,10]++body++t):=At.app (s:=[125]) h1
 have h3:At b (j+1+(dec body.length).length+3) (body++t):=At.app (s:=[13,10]) (r:=body++t) (by simpa using h2)
 have hlen:=h3.len
 rw[List.length_append] at hlen
 unfold zq5
 rw[h0.dr,zpo (p:=dec body.length) fun x hx=>zsf (zeS 10 _ x hx) (by decide)]
 dsimp only
 have hs:slice b (j+1) (j+1+(dec body.length).length)=dec body.length:=by
  unfold slice;rw[h0.dr,Nat.add_sub_cancel_left,List.take_left]
 rw[hs,zgm (by omega)]
 dsimp only
 have g1:b[j+1+(dec body.length).length+1]?=some 13:=by
  have:(b.drop (j+1+(dec body.length).length+1))[0]?=some 13:=by rw[h2.dr];rfl
  rw[List.getElem?_drop] at this;simpa using this
 have g2:b[j+1+(dec body.length).length+2]?=some 10:=by
  have:(b.drop (j+1+(dec body.length).length+1))[1]?=some 10:=by rw[h2.dr];rfl
  rw[List.getElem?_drop] at this;simpa using this
 rw[if_pos ⟨hl,g1,g2,by omega⟩]
 have hs2:slice b (j+1+(dec body.length).length+3) (j+1+(dec body.length).length+3+body.length)=body:=by
  unfold slice;rw[h3.dr,Nat.add_sub_cancel_left,List.take_left]
 rw[hs2]
 have:j+1+(dec body.length).length+3+body.length=j+(ze0 body).length:=by unfold ze0;simp only[List.length_append,List.length_cons,List.length_nil];omega
 rw[this]
theorem zvK{b:List UInt8}(hb:b.length<=100000){j:Nat}{body t:List UInt8}(hl:body.length<=65536)(h:At b j (ze0 body++t)):zk 200000 b (j:Int)=some (body,((j+(ze0 body).length:Nat):Int),true,()):=by
 have h':At b j (123::(dec body.length++[125,13,10]++body++t)):=by unfold ze0 at h;simpa using h
 obtain⟨hi,hc⟩:=h'.get
 rw[zj2 200000 b hb (by omega) j hi hc]
 exact zu8 hl h
theorem ztB(b:List UInt8)(i:Nat):∃ (x:List UInt8) (n:Nat) (ok:Bool),zq5 b i=some (x,((n:Nat):Int),ok,())/\x.length<=b.length/\n<=b.length:=by
 unfold zq5
 split
 ·exact⟨[],0,false,rfl,Nat.zero_le _,Nat.zero_le _⟩
 ·split
  ·exact⟨[],0,false,rfl,Nat.zero_le _,Nat.zero_le _⟩
  ·split
   ·rename_i hc;exact⟨_,_,true,rfl,jx,hc.2.2.2⟩
   ·exact⟨[],0,false,rfl,Nat.zero_le _,Nat.zero_le _⟩
theorem zuf{b:List UInt8}(hb:b.length<=100000){i:Nat}(hi:i<=b.length):∃ (x:List UInt8) (n:Nat) (ok:Bool),zk 200000 b (i:Int)=some (x,((n:Nat):Int),ok,())/\x.length<=b.length/\n<=b.length:=by
 rcases Nat.lt_or_ge i b.length with h|h
 ·by_cases hc:b[i]=123
  ·rw[zj2 200000 b hb (by omega) i h hc];exact ztB b i
  ·refine⟨[],0,false,?_,Nat.zero_le _,Nat.zero_le _⟩
   unfold zk
   have w1:IntKind.wrap .i64 ((i:Int)+1)=((i+1:Nat):Int):=by rw[wri (by omega) (by omega)];omega
   have w2:IntKind.wrap .i64 (((i+1:Nat):Int)-1)=(i:Int):=by rw[wri (by omega) (by omega)];omega
   have d0:decide ((i:Int)<0)=false:=by simp
   have d1:decide (((b.length:Nat):Int)<=(i:Int))=false:=by simp;omega
   have hne:(b[i]==(123:UInt8))=false:=by rw[beq_eq_false_iff_ne];exact hc
   simp only[d0,d1,cond_false,w1,w2,qi h,cond_true,Int.toNat_natCast,wR (u:=.u8) h,hne,Bool.not_false]
   rfl
 ·refine⟨[],0,false,?_,Nat.zero_le _,Nat.zero_le _⟩
  unfold zk
  have d0:decide ((i:Int)<0)=false:=by simp
  have d1:decide (((b.length:Nat):Int)<=(i:Int))=true:=by simp;omega
  simp only[d0,d1,cond_false,cond_true]
  rfl
end Go.Proofs.Model
