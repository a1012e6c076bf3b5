/- Both look at a response in the same way. -/
import Derived.Test.YtljnndccimlnlaaGreatDoorRe
set_option linter.unusedVariables false
set_option linter.unusedSimpArgs false
set_option maxRecDepth 100000
namespace Go.Proofs.Model
open Go Go.Gx Go.Mx Go.Sx
def zj8(k n:Int):Rsp:=(k,(n,([],(0,([],(0,(0,(0,(0,[])))))))))
def zmN(k:Int)(t:List UInt8):Rsp:=(k,(0,([],(0,(t,(0,(0,(0,(0,[])))))))))
def ztS(g t:List UInt8)(s:Int):Rsp:=(9,(0,(g,(s,(t,(0,(0,(0,(0,[])))))))))
def zrj(n it:Int)(fl:UInt8)(uid sz:Int)(body:List UInt8):Rsp:=(4,(n,([],(0,([],(it,(fl,(uid,(sz,body)))))))))
def zmg(n it:Int)(fl:UInt8)(uid sz:Int)(body:List UInt8):Rsp:=zrj n it (cond (bI it 1) fl 0) (cond (bI it 2) uid 0) (cond (bI it 4) sz 0) (cond (bI it 16) body [])
def Small(r:Rsp):Prop:=r.2.2.1.length<=100000/\r.2.2.2.2.1.length<=100000/\r.2.2.2.2.2.2.2.2.2.length<=100000
theorem zym{r:Rsp}(h:VR r):(r.1=1\/r.1=2\/r.1=3)\/r.1=4\/r.1=5\/(r.1=6\/r.1=7\/r.1=8\/r.1=10)\/r.1=9:=by
 cases h with
 |num k n h=>exact .inl h
 |fet=>exact .inr (.inl rfl)
 |fls=>exact .inr (.inr (.inl rfl))
 |txt k t h=>exact .inr (.inr (.inr (.inl h)))
 |tag=>exact .inr (.inr (.inr (.inr rfl)))
theorem zi2{r:Rsp}(hk:r.1=1\/r.1=2\/r.1=3):VR r↔zj8 r.1 r.2.1=r:=by
 constructor
 ·intro h
  cases h with
  |num k n h=>rfl
  |fet=>exfalso;simp at hk
  |fls=>exfalso;simp at hk
  |txt k t h=>exfalso;simp only at hk;rcases h with rfl|rfl|rfl|rfl<;>rcases hk with hk|hk|hk<;>exact absurd hk (by decide)
  |tag=>exfalso;simp at hk
 ·intro h;rw[<- h];exact .num _ _ hk
theorem ztV{r:Rsp}(hk:r.1=5):VR r↔zj8 r.1 0=r:=by
 constructor
 ·intro h
  cases h with
  |num k n h=>exfalso;simp only at hk;rcases h with rfl|rfl|rfl<;>exact absurd hk (by decide)
  |fet=>exfalso;simp at hk
  |fls=>rfl
  |txt k t h=>exfalso;simp only at hk;rcases h with rfl|rfl|rfl|rfl<;>exact absurd hk (by decide)
  |tag=>exfalso;simp at hk
 ·intro h;rw[<- h,hk];exact .fls
theorem zgn{r:Rsp}(hk:r.1=6\/r.1=7\/r.1=8\/r.1=10):VR r↔(zby r.2.2.2.2.1&&zbW (zmN r.1 r.2.2.2.2.1) r)=true:=by
 rw[Bool.and_eq_true,ka]
 constructor
 ·intro h
  cases h with
  |num k n h=>exfalso;simp only at hk;rcases h with rfl|rfl|rfl<;>rcases hk with hk|hk|hk|hk<;>exact absurd hk (by decide)
  |fet=>exfalso;simp at hk
  |fls=>exfalso;simp at hk
  |txt k t h ht=>exact⟨ht,rfl⟩
  |tag=>exfalso;simp at hk
 ·intro⟨h1,h⟩;rw[<- h];exact .txt _ _ hk h1
theorem ztW{r:Rsp}(hk:r.1=9):VR r↔(zpn r.2.2.1&&(zby r.2.2.2.2.1&&(decide (0<=r.2.2.2.1)&&(decide (r.2.2.2.1<=2)&&zbW (ztS r.2.2.1 r.2.2.2.2.1 r.2.2.2.1) r))))=true:=by
 simp only[Bool.and_eq_true,ka,decide_eq_true_eq]
 constructor
 ·intro h
  cases h with
  |num k n h=>exfalso;simp only at hk;rcases h with rfl|rfl|rfl<;>exact absurd hk (by decide)
  |fet=>exfalso;simp at hk
  |fls=>exfalso;simp at hk
  |txt k t h ht=>exfalso;simp only at hk;rcases h with rfl|rfl|rfl|rfl<;>exact absurd hk (by decide)
  |tag g t s hg ht h0 h2=>exact⟨hg,ht,h0,h2,rfl⟩
 ·intro⟨h1,h2,h3,h4,h⟩;rw[<- h];exact .tag _ _ _ h1 h2 h3 h4
theorem ztU{r:Rsp}(hk:r.1=4):VR r↔(decide (1<=r.2.2.2.2.2.1)&&(decide (r.2.2.2.2.2.1<=31)&&(!bI r.2.2.2.2.2.1 8&&(decide (r.2.2.2.2.2.2.1<=31)&&(decide ((r.2.2.2.2.2.2.2.2.2.length:Int)<=65536)&&zbW r (zmg r.2.1 r.2.2.2.2.2.1 r.2.2.2.2.2.2.1 r.2.2.2.2.2.2.2.1 r.2.2.2.2.2.2.2.2.1 r.2.2.2.2.2.2.2.2.2))))))=true:=by
 simp only[Bool.and_eq_true,ka,decide_eq_true_eq,Bool.not_eq_true']
 constructor
 ·intro h
  cases h with
  |num k n h=>exfalso;simp only at hk;rcases h with rfl|rfl|rfl<;>exact absurd hk (by decide)
  |fls=>exfalso;simp at hk
  |txt k t h ht=>exfalso;simp only at hk;rcases h with rfl|rfl|rfl|rfl<;>exact absurd hk (by decide)
  |tag g t s hg ht h0 h2=>exfalso;simp at hk
  |fet n b1 b2 b4 b16 fl uid sz body h0 h1 h2 z1 z2 z4 z16=>
   obtain⟨e1,e2,e4,e16,e8⟩:=zeC b1 b2 b4 b16
   have hr:1<=itB b1 b2 b4 b16/\itB b1 b2 b4 b16<=31:=by revert h0;cases b1<;>cases b2<;>cases b4<;>cases b16<;>decide
   refine⟨hr.1,hr.2,e8,h1,by simp only;omega,?_⟩
   unfold zmg zrj
   simp only[e1,e2,e4,e16]
   have q1:cond b1 fl 0=fl:=by cases b1 with|true=>rfl|false=>exact(z1 rfl).symm
   have q2:cond b2 uid 0=uid:=by cases b2 with|true=>rfl|false=>exact(z2 rfl).symm
   have q4:cond b4 sz 0=sz:=by cases b4 with|true=>rfl|false=>exact(z4 rfl).symm
   have q16:cond b16 body []=body:=by cases b16 with|true=>rfl|false=>exact(z16 rfl).symm
   rw[q1,q2,q4,q16]
 ·rintro⟨h1,h2,h8,h3,h4,h⟩
  have hit:=ztk h1 h2 h8
  obtain⟨k,n,g,s,t,it,fl,uid,sz,body⟩:=r
  simp only at hk h1 h2 h3 h4 h8 hit
  unfold zmg zrj at h
  simp only[Prod.mk.injEq,true_and] at h
  obtain⟨_,rfl,rfl,rfl,e1,e2,e4,e16⟩:=h
  subst hk
  generalize hb1:bI it 1=b1 at *
  generalize hb2:bI it 2=b2 at *
  generalize hb4:bI it 4=b4 at *
  generalize hb16:bI it 16=b16 at *
  rw[hit]
  exact .fet n b1 b2 b4 b16 fl uid sz body (by intro e;rw[<- hit] at e;rw[e] at h1;exact absurd h1 (by decide)) h3 (by have h4':((body.length:Nat):Int)<=(65536:Int):=h4;omega) (fun e=>by subst e;exact e1) (fun e=>by subst e;exact e2) (fun e=>by subst e;exact e4) (fun e=>by subst e;exact e16)
theorem zqP(r:Rsp)(h:Small r):jO 200000 r=some (zmN 0 r.2.2.2.2.1,zby r.2.2.2.2.1,()):=by
 unfold jO zby
 have:=znE 200000 r.2.2.2.2.1 h.2.1 200000 0 (Nat.zero_le _) (by have:=h.2.1;omega)
 rw[List.drop_zero,show((0:Nat):Int)=(0:Int) from rfl] at this
 rw[this]
 cases r.2.2.2.2.1 != ([]:List UInt8) with
 |false=>rfl
 |true=>cases r.2.2.2.2.1.all zbp<;>rfl
theorem zqM(r:Rsp)(h:Small r):wB 200000 r=some (((0:Int),(ztS r.2.2.1 r.2.2.2.2.1 r.2.2.2.1).2),zpn r.2.2.1&&(zby r.2.2.2.2.1&&(decide (0<=r.2.2.2.1)&&decide (r.2.2.2.1<=2))),()):=by
 unfold wB zby zpn
 have h1:=znC 200000 r.2.2.1 h.1 200000 0 (Nat.zero_le _) (by have:=h.1;omega)
 have h2:=znF 200000 r.2.2.2.2.1 h.2.1 200000 0 (Nat.zero_le _) (by have:=h.2.1;omega)
 rw[List.drop_zero,show((0:Nat):Int)=(0:Int) from rfl] at h1 h2
 rw[h1,h2]
 cases r.2.2.1 != ([]:List UInt8) with
 |false=>rfl
 |true=>
  cases r.2.2.1.all zeV with
  |false=>rfl
  |true=>
   cases r.2.2.2.2.1 != ([]:List UInt8) with
   |false=>rfl
   |true=>
    cases r.2.2.2.2.1.all zbp with
    |false=>rfl
    |true=>
     cases decide (0<=r.2.2.2.1) with
     |false=>rfl
     |true=>rfl
theorem zo7(N:Nat)(k n:Int)(g:List UInt8)(s:Int)(t:List UInt8)(it:Int)(fl:UInt8)(uid sz:Int)(body:List UInt8):
  j0 N (k,(n,(g,(s,(t,(it,(fl,(uid,(sz,body)))))))))=some (((0:Int),(zrj n (itB (bI it 1) (bI it 2) (bI it 4) (bI it 16)) (cond (bI it 1) fl 0) (cond (bI it 2) uid 0) (cond (bI it 4) sz 0) (cond (bI it 16) body [])).2),itB (bI it 1) (bI it 2) (bI it 4) (bI it 16) != 0&&(decide (fl<=31)&&decide ((body.length:Int)<=65536)),()):=by
 unfold j0 bI
 dsimp only
 generalize(zd .and .i64 it 1 != 0)=b1
 generalize(zd .and .i64 it 2 != 0)=b2
 generalize(zd .and .i64 it 4 != 0)=b4
 generalize(zd .and .i64 it 16 != 0)=b16
 generalize decide (fl<=31)=c1
 generalize decide ((body.length:Int)<=65536)=c2
 cases b1<;>cases b2<;>cases b4<;>cases b16<;>cases c1<;>kernel_rfl
end Go.Proofs.Model
