/- The law, run by the machine M for each kind. -/
import Derived.Test.YtifkhebojenhnabGreatDoorSlAl
import Derived.Test.YtifkhebojenhnabGreatDoorB5
set_option linter.unusedVariables false
set_option linter.unusedSimpArgs false
set_option maxRecDepth 100000
namespace Go.Proofs.YtifkhebojenhnabGreatDoor
open Go Go.Gx Go.Mx Go.Sx
def hkA:zG:=wc (wc (ziV tab) 8 zlv) 6 zbM
noncomputable def zjE:Code:=match Tryz.f3.body with
 |some c=>c
 |none=>.skip
noncomputable def st0(hgl:zb)(k:Int):St:=⟨Arr.of ([.int .u8 k]++List.replicate (Tryz.f3.ntmps-1) .undef),hgl,[],none⟩
noncomputable def put(st:St)(k t:Int):St:={ st with env:=(st.env.set 12 (.int .u8 k)).set 13 (.int .u8 t) }
noncomputable def zll(hgl:zb)(k:Int):Option (Nat×Code×St):=chain Tryz.prog hkA 8000 4 zjE (st0 hgl k)
noncomputable def cont(hgl:zb)(k t:Int):Option (Ex×St):=match zll hgl k with
 |some (n+2,.seq (.seq _ b) rest,st)=>(match zC Tryz.prog hkA n b (put st k t) with
  |some (.normal,st')=>zC Tryz.prog hkA (n+1) rest st'
  |r=>r)
 |_=>none
noncomputable def fin(o:Option (Ex×St)):Option CR:=match o with
 |some (.normal,st)=>zbG Tryz.prog Tryz.f3 st.env (mleave (z8 Tryz.prog (zC Tryz.prog hkA 8000)) st.dl st.h .no)
 |some (.ret,st)=>zbG Tryz.prog Tryz.f3 st.env (mleave (z8 Tryz.prog (zC Tryz.prog hkA 8000)) st.dl st.h .no)
 |some (.panic v,st)=>zbG Tryz.prog Tryz.f3 st.env (mleave (z8 Tryz.prog (zC Tryz.prog hkA 8000)) st.dl st.h (.up v))
 |_=>none
noncomputable def zkW(hgl:zb)(k:Int):Option (Ex×St):=match zll hgl k with
 |some (n+2,.seq (.seq r _) _,st)=>zC Tryz.prog hkA n r st
 |_=>none
noncomputable def zhn(hgl:zb)(k:Int):Option (Ex×St):=match zll hgl k with
 |some (_+2,.seq (.seq _ _) _,st)=>some (.normal,put st k (k.tmod 3))
 |_=>none
theorem zh9{hgl:zb}(hs:∀ k,zkW hgl k=zhn hgl k)(h0:∀ k,kM true (fin (cont hgl k 0))=true)(h1:∀ k,kM true (fin (cont hgl k 1))=true)(h2:∀ k,kM true (fin (cont hgl k 2))=true)(b:UInt8):
  ∃ h',wx Tryz.prog (zC Tryz.prog hkA 8000) 3 [.int .u8 (b.toNat:Int)] hgl=some (.ret (.bool true) h'):=by
 have hf:kM true (fin (cont hgl (b.toNat:Int) ((b.toNat:Int).tmod 3)))=true:=by
  have hr:(b.toNat:Int).tmod 3=0\/(b.toNat:Int).tmod 3=1\/(b.toNat:Int).tmod 3=2:=by rw[Int.tmod_eq_emod_of_nonneg (by omega)];omega
  rcases hr with e|e|e<;>rw[e]
  ·exact h0 _
  ·exact h1 _
  ·exact h2 _
 have hs:=hs (b.toNat:Int)
 obtain⟨h',hc⟩:=zbb hf
 refine⟨h',?_⟩
 unfold cont at hc
 split at hc
 ·rename_i n r B rest st e
  unfold zkW zhn at hs
  rw[e] at hs
  simp only at hs
  rw[zey Tryz.func3 (show Tryz.f3.body=some zjE from rfl) (of_decide_eq_true rfl) e,zdT,zdT,hs]
  exact hc
 ·cases hc
end Go.Proofs.YtifkhebojenhnabGreatDoor
