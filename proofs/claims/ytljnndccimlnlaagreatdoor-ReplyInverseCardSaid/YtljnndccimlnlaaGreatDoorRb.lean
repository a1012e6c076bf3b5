/- Numbers, read by runes. -/
import Derived.Test.YtljnndccimlnlaaGreatDoorRa
set_option linter.unusedVariables false
set_option linter.unusedSimpArgs false
set_option maxRecDepth 100000
namespace Go.Proofs.Model
open Go Go.Gx Go.Mx Go.Sx
theorem ze8{n:Nat}(h:n<2147483648):IntKind.wrap .i32 ((n:Nat):Int)=((n:Nat):Int):=by
 simp [IntKind.wrap,IntKind.bits,IntKind.signed];omega
theorem zq0{n:Nat}(h:n<9223372036854775808):IntKind.wrap .i64 ((n:Nat):Int)=((n:Nat):Int):=wri (by omega) (by omega)
theorem ziF{a b:Nat}(ha:a<2147483648)(hb:b<2147483648):zd .or .i32 ((a:Nat):Int) ((b:Nat):Int)=((a ||| b:Nat):Int):=by
 show IntKind.wrap .i32 (((BitVec.ofInt 32 (a:Int) ||| BitVec.ofInt 32 (b:Int)).toNat:Nat):Int)=_
 have h1:(BitVec.ofInt 32 (a:Int) ||| BitVec.ofInt 32 (b:Int)).toNat=a ||| b:=by
  rw[BitVec.toNat_or,BitVec.ofInt_natCast,BitVec.ofInt_natCast,BitVec.toNat_ofNat,BitVec.toNat_ofNat,Nat.mod_eq_of_lt (by omega),Nat.mod_eq_of_lt (by omega)]
 rw[h1]
 exact ze8 (Nat.or_lt_two_pow (n:=31) ha hb)
theorem zoa{a b:Nat}:a<=a ||| b:=Nat.left_le_or
theorem ztw{a b:Nat}:b<=a ||| b:=Nat.right_le_or
def fB(c:UInt8):UInt8:=nth .u8 zfL c.toNat
def lo1(c:UInt8):UInt8:=nth .u8 zoi ((zhK (fB c) 4).toNat+(zhK (fB c) 4).toNat)
def hi1(c:UInt8):UInt8:=nth .u8 zoi ((zhK (fB c) 4).toNat+(zhK (fB c) 4).toNat+1)
def gF1(c:UInt8):Int:=zd .or .i32 (zd .andNot .i32 (IntKind.wrap .i32 ((UInt8.toNat c:Nat):Int)) (Int.fdiv (IntKind.wrap .i32 ((IntKind.wrap .i32 ((UInt8.toNat (241:UInt8):Nat):Int))*(2 ^ (min (Int.toNat (31:Int)) (IntKind.bits .i32))))) (2 ^ (min (Int.toNat (31:Int)) (IntKind.bits .i32))))) (zd .and .i32 (65533:Int) (Int.fdiv (IntKind.wrap .i32 ((IntKind.wrap .i32 ((UInt8.toNat (241:UInt8):Nat):Int))*(2 ^ (min (Int.toNat (31:Int)) (IntKind.bits .i32))))) (2 ^ (min (Int.toNat (31:Int)) (IntKind.bits .i32)))))
theorem zui(c:UInt8):57<gF1 c:=of_decide_eq_true (zfV (p:=fun c=>decide (57<gF1 c)) (by kernel_rfl) c)
def zmQ(c:UInt8):Prop:=128<=c.toNat->(240<=fB c/\fB c=241)\/(¬ 240<=fB c/\(zhK (fB c) 4).toNat<16/\128<=(lo1 c).toNat/\(hi1 c).toNat<=191 /\
 (((fB c &&& 7).toNat=2/\2<=(c &&& 31).toNat)\/((fB c &&& 7).toNat=3/\(1<=(c &&& 15).toNat\/160<=(lo1 c).toNat))\/((fB c &&& 7).toNat=4/\(1<=(c &&& 7).toNat\/144<=(lo1 c).toNat))))
instance (c:UInt8):Decidable (zmQ c):=by unfold zmQ;infer_instance
theorem zrM(c:UInt8):zmQ c:=of_decide_eq_true (zfV (p:=fun c=>decide (zmQ c)) (by kernel_rfl) c)
theorem zxF(c:UInt8):(160<=c.toNat->c.toNat<=191->32<=(c &&& 63).toNat)/\(144<=c.toNat->c.toNat<=191->16<=(c &&& 63).toNat):=of_decide_eq_true (zfV (p:=fun c=>decide ((160<=c.toNat->c.toNat<=191->32<=(c &&& 63).toNat)/\(144<=c.toNat->c.toNat<=191->16<=(c &&& 63).toNat))) (by kernel_rfl) c)
theorem u8w{n:Nat}(h:n<256):IntKind.wrap .i32 ((n:Nat):Int)=((n:Nat):Int):=ze8 (by omega)
theorem m6(n:Nat):((n:Nat):Int)*(2 ^ (min (Int.toNat (6:Int)) (IntKind.bits .i32)))=((n*64:Nat):Int):=rfl
theorem m12(n:Nat):((n:Nat):Int)*(2 ^ (min (Int.toNat (12:Int)) (IntKind.bits .i32)))=((n*4096:Nat):Int):=rfl
theorem m18(n:Nat):((n:Nat):Int)*(2 ^ (min (Int.toNat (18:Int)) (IntKind.bits .i32)))=((n*262144:Nat):Int):=rfl
theorem zen(c m:UInt8):(c &&& m).toNat<=m.toNat:=by rw[UInt8.toNat_and];exact Nat.and_le_right
theorem zuI{a b:Nat}(n:Nat)(ha:a<2 ^ n)(hb:b<2 ^ n):a ||| b<2 ^ n:=Nat.or_lt_two_pow ha hb
theorem v2(a b:UInt8):zd .or .i32 (IntKind.wrap .i32 ((IntKind.wrap .i32 ((UInt8.toNat (a &&& (31:UInt8)):Nat):Int))*(2 ^ (min (Int.toNat (6:Int)) (IntKind.bits .i32))))) (IntKind.wrap .i32 ((UInt8.toNat (b &&& (63:UInt8)):Nat):Int))=(((a &&& 31).toNat*64 ||| (b &&& 63).toNat:Nat):Int):=by
 have h1:=zen a 31;have h2:=zen b 63
 rw[show(31:UInt8).toNat=31 from rfl] at h1;rw[show(63:UInt8).toNat=63 from rfl] at h2
 rw[u8w (by omega),u8w (by omega),m6,ze8 (by omega),ziF (by omega) (by omega)]
theorem v3(a b c:UInt8):zd .or .i32 (zd .or .i32 (IntKind.wrap .i32 ((IntKind.wrap .i32 ((UInt8.toNat (a &&& (15:UInt8)):Nat):Int))*(2 ^ (min (Int.toNat (12:Int)) (IntKind.bits .i32))))) (IntKind.wrap .i32 ((IntKind.wrap .i32 ((UInt8.toNat (b &&& (63:UInt8)):Nat):Int))*(2 ^ (min (Int.toNat (6:Int)) (IntKind.bits .i32)))))) (IntKind.wrap .i32 ((UInt8.toNat (c &&& (63:UInt8)):Nat):Int))=((((a &&& 15).toNat*4096 ||| (b &&& 63).toNat*64) ||| (c &&& 63).toNat:Nat):Int):=by
 have h1:=zen a 15;have h2:=zen b 63;have h3:=zen c 63
 rw[show(15:UInt8).toNat=15 from rfl] at h1;rw[show(63:UInt8).toNat=63 from rfl] at h2 h3
 have h4:=zuI 20 (show(a &&& 15).toNat*4096<2 ^ 20 by omega) (show(b &&& 63).toNat*64<2 ^ 20 by omega)
 rw[u8w (by omega),u8w (by omega),u8w (by omega),m12,m6,ze8 (by omega),ze8 (by omega),ziF (by omega) (by omega),ziF (by omega) (by omega)]
theorem v4(a b c d:UInt8):zd .or .i32 (zd .or .i32 (zd .or .i32 (IntKind.wrap .i32 ((IntKind.wrap .i32 ((UInt8.toNat (a &&& (7:UInt8)):Nat):Int))*(2 ^ (min (Int.toNat (18:Int)) (IntKind.bits .i32))))) (IntKind.wrap .i32 ((IntKind.wrap .i32 ((UInt8.toNat (b &&& (63:UInt8)):Nat):Int))*(2 ^ (min (Int.toNat (12:Int)) (IntKind.bits .i32)))))) (IntKind.wrap .i32 ((IntKind.wrap .i32 ((UInt8.toNat (c &&& (63:UInt8)):Nat):Int))*(2 ^ (min (Int.toNat (6:Int)) (IntKind.bits .i32)))))) (IntKind.wrap .i32 ((UInt8.toNat (d &&& (63:UInt8)):Nat):Int))=(((((a &&& 7).toNat*262144 ||| (b &&& 63).toNat*4096) ||| (c &&& 63).toNat*64) ||| (d &&& 63).toNat:Nat):Int):=by
 have h1:=zen a 7;have h2:=zen b 63;have h3:=zen c 63;have h5:=zen d 63
 rw[show(7:UInt8).toNat=7 from rfl] at h1;rw[show(63:UInt8).toNat=63 from rfl] at h2 h3 h5
 have h4:=zuI 24 (show(a &&& 7).toNat*262144<2 ^ 24 by omega) (show(b &&& 63).toNat*4096<2 ^ 24 by omega)
 have h6:=zuI 24 h4 (show(c &&& 63).toNat*64<2 ^ 24 by omega)
 rw[u8w (by omega),u8w (by omega),u8w (by omega),u8w (by omega),m18,m12,m6,ze8 (by omega),ze8 (by omega),ze8 (by omega),ziF (by omega) (by omega),ziF (by omega) (by omega),ziF (by omega) (by omega)]
theorem zx3{n:Nat}(h:n<256):IntKind.wrap .i64 ((n:Nat):Int)=((n:Nat):Int):=zq0 (by omega)
theorem zqz(N:Nat)(c:UInt8)(t:List UInt8)(hc:128<=c.toNat):∃ r sz:Int,qa N (c::t)=some (r,sz,())/\57<r:=by
 unfold qa
 have hl:decide ((((c::t).length:Nat):Int)<(1:Int))=false:=by rw[decide_eq_false_iff_not,List.length_cons];omega
 have h0:inb (0:Int) (c::t).length=true:=jJ (i:=0) (by simp)
 have hn:nth .u8 (c::t) 0=c:=rfl
 have h256:inb ((c.toNat:Nat):Int) 256=true:=jJ c.toNat_lt
 simp only[hl,cond_false,h0,cond_true,hn,h256,Bool.and_self,Int.toNat_natCast]
 rw[show nth .u8 zfL c.toNat=fB c from rfl]
 have hf:=zrM c hc
 rcases hf with⟨h1,h2⟩|⟨h1,h2,h3,h4,h5⟩
 ·rw[decide_eq_true h1,h2]
  exact⟨_,_,rfl,zui c⟩
 ·rw[decide_eq_false h1,jJ h2]
  rw[show nth .u8 zoi ((zhK (fB c) 4).toNat+(zhK (fB c) 4).toNat)=lo1 c from rfl,show nth .u8 zoi ((zhK (fB c) 4).toNat+(zhK (fB c) 4).toNat+1)=hi1 c from rfl]
  have hsz:IntKind.wrap .i64 (((fB c &&& 7).toNat:Nat):Int)=(((fB c &&& 7).toNat:Nat):Int):=zx3 (UInt8.toNat_lt _)
  rw[hsz]
  simp only[cond_false,cond_true]
  generalize hS:(fB c &&& 7).toNat=S at h5 |-
  generalize lo1 c=lo at h3 h5 |-
  generalize hi1 c=hi at h4 |-
  cases hlen:decide ((((c::t).length:Nat):Int)<((S:Nat):Int)) with
  |true=>exact⟨65533,1,rfl,by decide⟩
  |false=>
   have hlen:=of_decide_eq_false hlen
   have hS2:2<=S:=by omega
   obtain⟨c1,t1,rfl⟩:∃ c1 t1,t=c1::t1:=by
    cases t with
    |nil=>simp at hlen;omega
    |cons c1 t1=>exact⟨c1,t1,rfl⟩
   rw[show inb (1:Int) (c::c1::t1).length=true from jJ (i:=1) (by simp),show nth .u8 (c::c1::t1) 1=c1 from rfl]
   simp only[cond_true,cond_false]
   cases hlo:decide (c1<lo) with
   |true=>exact⟨65533,1,rfl,by decide⟩
   |false=>
    cases hhi:decide (hi<c1) with
    |true=>exact⟨65533,1,rfl,by decide⟩
    |false=>
     have hlo:=of_decide_eq_false hlo
     have hhi:=of_decide_eq_false hhi
     rw[UInt8.lt_iff_toNat_lt] at hlo hhi
     have hand:=zxF c1
     simp only[cond_false]
     rcases h5 with⟨rfl,h6⟩|⟨rfl,h6⟩|⟨rfl,h6⟩
     ·refine⟨_,_,rfl,?_⟩
      rw[v2]
      have:=zoa (a:=(c &&& 31).toNat*64) (b:=(c1 &&& 63).toNat);omega
     ·obtain⟨c2,t2,rfl⟩:∃ c2 t2,t1=c2::t2:=by
       cases t1 with
       |nil=>simp at hlen
       |cons c2 t2=>exact⟨c2,t2,rfl⟩
      rw[decide_eq_false (show ¬ ((3:Nat):Int)<=(2:Int) by omega),show inb (2:Int) (c::c1::c2::t2).length=true from jJ (i:=2) (by simp),show nth .u8 (c::c1::c2::t2) 2=c2 from rfl]
      simp only[cond_true,cond_false]
      cases decide (c2<128) with
      |true=>exact⟨65533,1,rfl,by decide⟩
      |false=>
       cases decide (191<c2) with
       |true=>exact⟨65533,1,rfl,by decide⟩
       |false=>
        refine⟨_,_,rfl,?_⟩
        rw[v3]
        have q1:=zoa (a:=(c &&& 15).toNat*4096) (b:=(c1 &&& 63).toNat*64)
        have q2:=ztw (a:=(c &&& 15).toNat*4096) (b:=(c1 &&& 63).toNat*64)
        have q3:=zoa (a:=(c &&& 15).toNat*4096 ||| (c1 &&& 63).toNat*64) (b:=(c2 &&& 63).toNat)
        rcases h6 with h6|h6
        ·omega
        ·have:=hand.1 (by omega) (by omega);omega
     ·obtain⟨c2,t2,rfl⟩:∃ c2 t2,t1=c2::t2:=by
       cases t1 with
       |nil=>simp at hlen
       |cons c2 t2=>exact⟨c2,t2,rfl⟩
      obtain⟨c3,t3,rfl⟩:∃ c3 t3,t2=c3::t3:=by
       cases t2 with
       |nil=>simp at hlen
       |cons c3 t3=>exact⟨c3,t3,rfl⟩
      rw[decide_eq_false (show ¬ ((4:Nat):Int)<=(2:Int) by omega),show inb (2:Int) (c::c1::c2::c3::t3).length=true from jJ (i:=2) (by simp),show nth .u8 (c::c1::c2::c3::t3) 2=c2 from rfl]
      simp only[cond_true,cond_false]
      cases decide (c2<128) with
      |true=>exact⟨65533,1,rfl,by decide⟩
      |false=>
       cases decide (191<c2) with
       |true=>exact⟨65533,1,rfl,by decide⟩
       |false=>
        rw[decide_eq_false (show ¬ ((4:Nat):Int)<=(3:Int) by omega),show inb (3:Int) (c::c1::c2::c3::t3).length=true from jJ (i:=3) (by simp),show nth .u8 (c::c1::c2::c3::t3) 3=c3 from rfl]
        simp only[cond_true,cond_false]
        cases decide (c3<128) with
        |true=>exact⟨65533,1,rfl,by decide⟩
        |false=>
         cases decide (191<c3) with
         |true=>exact⟨65533,1,rfl,by decide⟩
         |false=>
          refine⟨_,_,rfl,?_⟩
          rw[v4]
          have q1:=zoa (a:=(c &&& 7).toNat*262144) (b:=(c1 &&& 63).toNat*4096)
          have q2:=ztw (a:=(c &&& 7).toNat*262144) (b:=(c1 &&& 63).toNat*4096)
          have q3:=zoa (a:=(c &&& 7).toNat*262144 ||| (c1 &&& 63).toNat*4096) (b:=(c2 &&& 63).toNat*64)
          have q4:=zoa (a:=(c &&& 7).toNat*262144 ||| (c1 &&& 63).toNat*4096 ||| (c2 &&& 63).toNat*64) (b:=(c3 &&& 63).toNat)
          rcases h6 with h6|h6
          ·omega
          ·have:=hand.2 (by omega) (by omega);omega
theorem zqc(N:Nat)(c:UInt8)(t:List UInt8)(hc:128<=c.toNat)(hN:0<N):∃ r sz:Int,zR N (c::t)=some (r,sz,())/\57<r:=by
 obtain⟨N,rfl⟩:∃ k,N=k+1:=⟨N-1,by omega⟩
 unfold zR zE jY
 rw[decide_eq_true (show(0:Int)<(((c::t).length:Nat):Int) by rw[List.length_cons];omega),show inb (0:Int) (c::t).length=true from jJ (i:=0) (by simp),show nth .u8 (c::t) 0=c from rfl,decide_eq_false (show ¬ c<128 by rw[UInt8.lt_iff_toNat_lt];simpa using hc)]
 obtain⟨r,sz,h1,h2⟩:=zqz (N+1) c t hc
 simp only[cond_true,cond_false,Option.bind_some,zn,h1]
 exact⟨r,sz,rfl,h2⟩
theorem zrU(N:Nat)(c:UInt8)(t:List UInt8)(hc:c.toNat<128)(hN:0<N):zR N (c::t)=some (((c.toNat:Nat):Int),1,()):=by
 obtain⟨N,rfl⟩:∃ k,N=k+1:=⟨N-1,by omega⟩
 unfold zR zE jY
 rw[decide_eq_true (show(0:Int)<(((c::t).length:Nat):Int) by rw[List.length_cons];omega),show inb (0:Int) (c::t).length=true from jJ (i:=0) (by simp),show nth .u8 (c::t) 0=c from rfl,decide_eq_true (show c<128 by rw[UInt8.lt_iff_toNat_lt];simpa using hc)]
 simp only[cond_true,Option.bind_some,zn,ze8 (show c.toNat<2147483648 by omega)]
end Go.Proofs.Model
