/- Reading at an offset: the reader's steps and the reference's. -/
import Derived.Test.YtljnndccimlnlaaGreatDoorRm
import Derived.Test.YtljnndccimlnlaaGreatDoorB6
import Derived.Lib.IndexMore
set_option linter.unusedVariables false
set_option linter.unusedSimpArgs false
set_option maxRecDepth 100000
namespace Go.Proofs.Model
open Go Go.Gx Go.Mx Go.Sx
structure At(b:List UInt8)(i:Nat)(r:List UInt8):Prop where
 le:i<=b.length
 dr:b.drop i=r
theorem At.app{b:List UInt8}{i:Nat}{s r:List UInt8}(h:At b i (s++r)):At b (i+s.length) r:=by
 have hl:(b.drop i).length=s.length+r.length:=by rw[h.dr,List.length_append]
 rw[List.length_drop] at hl
 have:=h.le
 refine⟨by omega,?_⟩
 rw[<- List.drop_drop,h.dr,List.drop_left]
theorem At.len{b:List UInt8}{i:Nat}{r:List UInt8}(h:At b i r):i+r.length=b.length:=by
 have:=h.le;rw[<- h.dr,List.length_drop];omega
theorem At.get{b:List UInt8}{i:Nat}{c:UInt8}{r:List UInt8}(h:At b i (c::r)):∃ hi:i<b.length,b[i]=c:=by
 have:=h.len;rw[List.length_cons] at this
 refine⟨by omega,?_⟩
 have h2:=h.dr
 rw[drop_one (by omega)] at h2
 injection h2
def pre(s r:List UInt8):Bool:=s.isPrefixOf r
theorem zcD{s r:List UInt8}:pre s r=true↔∃ t,r=s++t:=by
 unfold pre
 rw[List.isPrefixOf_iff_prefix]
 exact⟨fun⟨t,h⟩=>⟨t,h.symm⟩,fun⟨t,h⟩=>⟨t,h.symm⟩⟩
theorem zjH{s r:List UInt8}:pre s r=(decide (s.length<=r.length)&&(r.take s.length==s)):=by
 rw[Bool.eq_iff_iff,zcD]
 simp only[Bool.and_eq_true,decide_eq_true_eq,beq_iff_eq]
 constructor
 ·rintro⟨t,rfl⟩;simp
 ·rintro⟨h1,h2⟩;exact⟨r.drop s.length,by conv=>lhs;rw[<- List.take_append_drop s.length r,h2]⟩
theorem zrO{s r:List UInt8}:pre s (s++r)=true:=zcD.2 ⟨r,rfl⟩
theorem zoU{n m:Nat}(h:n<m):Nat.blt n m=true:=by rw[Nat.blt_eq];exact h
theorem zoT{n m:Nat}(h:n<=m):Nat.ble n m=true:=by rw[Nat.ble_eq];exact h
theorem zaE(N:Nat){b:List UInt8}{i:Nat}{r:List UInt8}(h:At b i r):zj N (b,(i:Int))=some ((b,(i:Int)),r,()):=by
 unfold zj
 simp only[zfg h.le,Bool.and_self,cond_true,Int.toNat_natCast,zdo,h.dr]
theorem zfo(N:Nat)(r s:List UInt8):zk N r s=some (pre s r,()):=by
 unfold zk xU
 rw[zjH]
 by_cases h:s.length<=r.length
 ·rw[decide_eq_true (by omega:((s.length:Nat):Int)<=((r.length:Nat):Int)),decide_eq_true h]
  rw[show((0:Int))=((0:Nat):Int) from rfl,ki (Nat.zero_le _) h]
  simp only[cond_true,Bool.and_self,Option.bind_some,Int.toNat_natCast,zdE,Bool.true_and]
 ·rw[decide_eq_false (by omega),decide_eq_false h];rfl
theorem zhL(N:Nat){b:List UInt8}(hb:b.length<=100000){i:Nat}{r:List UInt8}(h:At b i r)(s:List UInt8)(hs:s.length<=100000):za N (b,(i:Int)) s=some (if pre s r then((b,((i+s.length:Nat):Int)),true,()) else((b,(i:Int)),false,())):=by
 unfold za
 simp only[zaE N h,Option.bind_some,zoU (show s.length<kg by unfold kg;omega),cond_true,zfo]
 have:=h.le
 cases pre s r with
 |true=>
  simp only[Bool.not_true,cond_false,if_true]
  rw[wri (by omega) (by omega),Int.natCast_add]
 |false=>rfl
theorem zcl(N:Nat){b:List UInt8}(hb:b.length<=100000){i:Nat}{s r:List UInt8}(h:At b i (s++r))(hs:s.length<=100000):za N (b,(i:Int)) s=some ((b,((i+s.length:Nat):Int)),true,()):=by
 rw[zhL N hb h s hs,zrO];rfl
theorem zaF(N:Nat){b:List UInt8}(hb:b.length<=100000){i:Nat}{s r:List UInt8}(h:At b i r)(hs:s.length<=100000)(hp:pre s r=false):za N (b,(i:Int)) s=some ((b,(i:Int)),false,()):=by
 rw[zhL N hb h s hs,hp];rfl
theorem zwb{c:UInt8}{s t:List UInt8}:∀ {p:List UInt8},(∀ x ∈ p,x≠c)->Go.Lib.index (p++(c::s)++t) (c::s)=((p.length:Nat):Int)
 | [],_=>by
  have:(c::s).isPrefixOf (c::(s++t))=true:=by rw[List.isPrefixOf_iff_prefix];exact⟨t,by simp⟩
  simp only[List.nil_append,List.cons_append,Go.Lib.index]
  rw[if_pos this,List.length_nil];rfl
 |x::p,h=>by
  have ih:=zwb (s:=s) (t:=t) (p:=p) fun y hy=>h y (List.mem_cons_of_mem _ hy)
  have hx:x≠c:=h x List.mem_cons_self
  rw[show x::p++(c::s)++t=x::(p++(c::s)++t) from rfl]
  unfold Go.Lib.index
  have:(c::s).isPrefixOf (x::(p++(c::s)++t))=false:=by
   simp only[List.isPrefixOf,Bool.and_eq_false_iff,beq_eq_false_iff_ne]
   exact .inl (Ne.symm hx)
  rw[this,ih]
  rw[if_neg (by simp),if_neg (by simp),List.length_cons]
  rfl
theorem zfR(N:Nat){b:List UInt8}(hb:b.length<=100000){i:Nat}{p s t:List UInt8}{c:UInt8}(h:At b i (p++(c::s)++t))(hs2:s.length<=99)(hp:∀ x ∈ p,x≠c):zA N (b,(i:Int)) (c::s)=some ((b,((i+(p.length+(s.length+1)):Nat):Int)),p,true,()):=by
 have hl:=h.len
 simp only[List.length_append,List.length_cons] at hl
 unfold zA
 simp only[zaE N h,Option.bind_some,zoU (show(c::s).length<kg by unfold kg;simp;omega),cond_true,zoU (show 0<(c::s).length by simp),zoT (show(p++(c::s)++t).length<=zbT by unfold zbT;simp;omega),zoT (show(c::s).length<=zbT by unfold zbT;simp;omega),Bool.and_self,zwb hp]
 rw[decide_eq_false (by omega)]
 rw[show((0:Int))=((0:Nat):Int) from rfl,ki (Nat.zero_le _) (by simp)]
 simp only[cond_false,Bool.and_self,cond_true,Int.toNat_natCast,zdE,List.length_cons]
 rw[wri (x:=(p.length:Int)+((s.length+1:Nat):Int)) (by omega) (by omega),wri (by omega) (by omega),List.append_assoc,List.take_left]
 rw[show(i:Int)+((p.length:Int)+((s.length+1:Nat):Int))=((i+(p.length+(s.length+1)):Nat):Int) by omega]
theorem zlB:∀ (l:List UInt8) (acc:Nat) (c:UInt8),zi0 acc (l++[c])=(zi0 acc l).bind fun v=>zi0 v [c]
 | [],acc,c=>rfl
 |x::l,acc,c=>by
  rw[List.cons_append]
  unfold zi0
  split
  ·exact zlB l _ c
  ·rfl
theorem zjd{k:Nat}(h:k<10):(UInt8.ofNat (48+k)).toNat=48+k:=by
 rw[UInt8.toNat_ofNat'];omega
theorem zlA:∀ (f n:Nat),n<10 ^ f->0<f->zi0 0 (jI f n)=some n
 |0,n,_,h=>by omega
 |f+1,n,h,_=>by
  unfold jI
  split
  ·rename_i h10
   simp only[zi0,zjd h10]
   rw[if_pos ⟨by omega,by omega⟩]
   congr 1;omega
  ·rename_i h10
   have hf:0<f:=by
    rcases Nat.eq_zero_or_pos f with rfl|hf
    ·simp at h;omega
    ·exact hf
   rw[zlB,zlA f (n/10) (by rw[Nat.pow_succ] at h;omega) hf]
   simp only[Option.bind_some,zi0,zjd (show n % 10<10 by omega)]
   rw[if_pos ⟨by omega,by omega⟩]
   congr 1;omega
theorem zgP{n:Nat}(h:n<4294967296):zhr (dec n)=some n:=by
 unfold zhr dec
 rw[zlA 10 n (by omega) (by omega)]
 dsimp only
 rw[if_pos ⟨by omega,rfl⟩]
def zbx(c:UInt8):Bool:=decide (48<=c.toNat)&&decide (c.toNat<=57)
theorem zfi:∀ (f n:Nat),∀ x ∈ jI f n,zbx x=true
 |0,n,x,h=>by simp [jI] at h
 |f+1,n,x,h=>by
  unfold jI at h
  split at h
  ·rename_i h10
   simp only[List.mem_singleton] at h
   subst h
   unfold zbx
   rw[zjd h10];simp;omega
  ·rw[List.mem_append] at h
   rcases h with h|h
   ·exact zfi f _ x h
   ·simp only[List.mem_singleton] at h
    subst h
    unfold zbx
    rw[zjd (show n % 10<10 by omega)];simp;omega
theorem zvX(n:Nat):0<(dec n).length:=by
 unfold dec jI
 split<;>simp
end Go.Proofs.Model
