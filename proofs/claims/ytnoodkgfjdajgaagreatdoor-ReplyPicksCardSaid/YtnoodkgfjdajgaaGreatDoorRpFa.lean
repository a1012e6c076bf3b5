/- The functions of the law: their models, and that the program does what they say. -/
import Derived.Test.YtnoodkgfjdajgaaGreatDoorBase4
import Derived.Test.YtnoodkgfjdajgaaGreatDoorRpHp
set_option linter.unusedVariables false
set_option linter.unusedSimpArgs false
set_option maxRecDepth 100000
namespace Go.Proofs.YtnoodkgfjdajgaaGreatDoor
open Go Go.Gx Go.Mx Go.Sx
def glA : GL := []
def hkA : Hooks := addHook (mext tab) 20 yesG
theorem hkok : HkOK Tryz.prog hkA [20] := hkok_add (hkok_ext (by kernel_rfl)) 20 yesG
theorem rgl {hgl : Heap} {p : Prop} (_ : p) (E : List Blk) : RGl Tryz.prog glA ⟨hgl ++ E, PhA (hgl ++ E), [], []⟩ := fun g cs h => by simp [glA] at h
@[reducible] def uS1 : U := (.pair (.int .i64) (.pair (.int .u32) (.pair .str (.pair (.int .i64) (.pair .str (.pair (.int .i64) (.pair .u8 (.pair (.int .u32) (.pair (.int .u32) (.sl .u8))))))))))
-- cubbyhole/cubbyholeref09.Few
def F_ref09_Few_l4_t (N : Nat) {R : Type} (x2 : List (El uS1)) (x3 : Int) (rec_ : (List (El uS1)) → (Int) → Option R) (o0 : Unit → Option R) (o1 : (List (El uS1)) → Option R) : Option R :=
  (cond (decide (x3 < (((List.length x2) : Nat) : Int))) (cond (inb x3 (List.length x2)) (cond (decide ((100 : Int) < (((List.length (nth uS1 x2 (Int.toNat x3)).2.2.1) : Nat) : Int))) (o0 ()) (cond (inb x3 (List.length x2)) (cond (decide ((300 : Int) < (((List.length (nth uS1 x2 (Int.toNat x3)).2.2.2.2.1) : Nat) : Int))) (o0 ()) (cond (inb x3 (List.length x2)) (cond (decide ((500 : Int) < (((List.length (nth uS1 x2 (Int.toNat x3)).2.2.2.2.2.2.2.2.2) : Nat) : Int))) (o0 ()) (rec_ x2 (IntKind.wrap .i64 (x3 + (1 : Int))))) none)) none)) none) (o1 x2))
def F_ref09_Few_l4 (N : Nat) : Nat → (List (El uS1)) → (Int) → Option ((Unit) ⊕ ((List (El uS1))))
  | 0, _, _ => none
  | m + 1, x2, x3 => F_ref09_Few_l4_t N x2 x3 (F_ref09_Few_l4 N m) (fun _ => some (Sum.inl ())) (fun v0 => some (Sum.inr v0))
def F_ref09_Few_l4_O (o : (Unit) ⊕ ((List (El uS1)))) : Nat × List Lf := sumCase o (fun a => (0, [])) (fun b0 => (1, [.l uS1 b0]))
def F_ref09_Few_l4_S (N : Nat) : LS := fun R ls κ => match ls with | [w0, w1] => (Option.bind (getL uS1 w0) fun x2 => Option.bind (getI w1) fun x3 => Option.bind (F_ref09_Few_l4 N N x2 x3) (fun o => (sumCase o (fun a5 => κ 0 []) (fun b6 => κ 1 [.l uS1 b6])))) | _ => none
def F_ref09_Few_l4_p : PS := ⟨[(.isl uS1), .drop, .drop, (.int .i64), .drop, .drop, .drop, .drop, .drop, .drop, .drop, .drop, .drop, .drop, .drop, .drop, .drop, .drop, .drop, .drop, .drop, .drop, .drop, .drop, .drop, .drop, .drop, .drop, .drop, .drop, .drop, .drop, .drop, .drop, .drop, .drop, .drop, .drop], []⟩
def F_ref09_Few_l4_o : List (SX × PS) := [(.ret, ⟨[.drop, .drop, (.cst (.bool false)), .drop, .drop, .drop, .drop, .drop, .drop, .drop, .drop, .drop, .drop, .drop, .drop, .drop, .drop, .drop, .drop, .drop, .drop, .drop, .drop, .drop, .drop, .drop, .drop, .drop, .drop, .drop, .drop, .drop, .drop, .drop, .drop, .drop, .drop, .drop], []⟩), (.exit 0, ⟨[(.isl uS1), .drop, .drop, .drop, .drop, .drop, .drop, .drop, .drop, .drop, .drop, .drop, .drop, .drop, .drop, .drop, .drop, .drop, .drop, .drop, .drop, .drop, .drop, .drop, .drop, .drop, .drop, .drop, .drop, .drop, .drop, .drop, .drop, .drop, .drop, .drop, .drop, .drop], []⟩)]
def F_ref09_Few (N : Nat) (p0 : (List (El uS1))) : Option (Bool × Unit) :=
  (Option.bind (F_ref09_Few_l4 N N p0 (0 : Int)) fun o7 => (sumCase o7 (fun a8 => (some (false, ()))) (fun b9 => (some ((decide ((((List.length b9) : Nat) : Int) ≤ (60 : Int))), ())))))
def F_ref09_Few_ct (N : Nat) : List (FuncId × CF) := [(20, conF [] [.bool] fun _ => some (true, ()))]
theorem F_ref09_Few_ok (N : Nat) : CtOK Tryz.prog glA (tabC (F_ref09_Few_ct N)) hkA := ctok hkok rfl ⟨yes_sound rfl, trivial⟩
def F_ref09_Few_l4_q (N : Nat) : Pl := .auto
theorem F_ref09_Few_l4_r (N : Nat) {R : Type} (x2 : List (El uS1)) (x3 : Int) (rec_ : List Lf → Option R) (out : Nat → List Lf → Option R) :
    round Tryz.prog glA (tabC (F_ref09_Few_ct N)) 1500 (F_ref09_Few_l4_q N) F_ref09_Few_l4_p F_ref09_Few_l4_o (roundOf Tryz.f19 [1, 0, 1, 2]) [.l uS1 x2, .i x3] rec_ out = F_ref09_Few_l4_t N x2 x3 (fun x2 x3 => rec_ [.l uS1 x2, .i x3]) (fun _ => out 0 []) (fun v0 => out 1 [.l uS1 v0]) := by kernel_rfl
theorem F_ref09_Few_l4_rel {rd : RD} {O : Type} {OUT : O → Nat × List Lf} (N : Nat) (x2 : List (El uS1)) (x3 : Int) (r1 : (List (El uS1)) → (Int) → Option O) (r2 : (List (El uS1)) → (Int) → Option (List Lf ⊕ (Nat × List Lf))) (p0 : Unit → Option O) (q0 : Unit → Option (List Lf ⊕ (Nat × List Lf))) (p1 : (List (El uS1)) → Option O) (q1 : (List (El uS1)) → Option (List Lf ⊕ (Nat × List Lf))) (hr : ∀ x2 x3, Rel rd OUT (r1 x2 x3) (r2 x2 x3)) (h0 : ∀ v, Rel rd OUT (p0 v) (q0 v)) (h1 : ∀ v0, Rel rd OUT (p1 v0) (q1 v0)) :
    Rel rd OUT (F_ref09_Few_l4_t N x2 x3 r1 p0 p1) (F_ref09_Few_l4_t N x2 x3 r2 q0 q1) := by
  unfold F_ref09_Few_l4_t
  exact (Rel.cond (Rel.cond (Rel.cond (h0 _) (Rel.cond (Rel.cond (h0 _) (Rel.cond (Rel.cond (h0 _) (hr _ _)) Rel.none)) Rel.none)) Rel.none) (h1 _))
theorem F_ref09_Few_l4_it (N : Nat) : ∀ (m : Nat) (x2 : List (El uS1)) (x3 : Int) (o : (Unit) ⊕ ((List (El uS1)))), F_ref09_Few_l4 N m x2 x3 = some o → It (round1 Tryz.prog glA (tabC (F_ref09_Few_ct N)) 1500 (F_ref09_Few_l4_q N) F_ref09_Few_l4_p F_ref09_Few_l4_o (roundOf Tryz.f19 [1, 0, 1, 2])) [.l uS1 x2, .i x3] (F_ref09_Few_l4_O o)
  | 0, _, _, o, h => by cases h
  | m + 1, x2, x3, o, h => Rel.it2 (F_ref09_Few_l4_r N (R := List Lf ⊕ (Nat × List Lf)) x2 x3 (fun l => some (.inl l)) (fun k os => some (.inr (k, os)))) (F_ref09_Few_l4_rel N x2 x3 _ _ _ _ _ _ (fun x2 x3 => Rel.rec_ fun o h => F_ref09_Few_l4_it N m x2 x3 o h) (fun _ => Rel.out rfl) (fun _ => Rel.out rfl)) h
theorem F_ref09_Few_l4_sp (N : Nat) : LoopSpec (round1 Tryz.prog glA (tabC (F_ref09_Few_ct N)) 1500 (F_ref09_Few_l4_q N) F_ref09_Few_l4_p F_ref09_Few_l4_o (roundOf Tryz.f19 [1, 0, 1, 2])) (F_ref09_Few_l4_S N) := by
  intro R ls κ r h
  unfold F_ref09_Few_l4_S at h
  split at h
  · obtain ⟨x2, e0, g0⟩ := bindS h
    obtain ⟨x3, e1, g1⟩ := bindS g0
    cases getL_s e0
    cases getI_s e1
    obtain ⟨o, h1, h2⟩ := bindS g1
    rcases o with o | o
    · exact ⟨_, _, F_ref09_Few_l4_it N N _ _ _ h1, h2⟩
    · exact ⟨_, _, F_ref09_Few_l4_it N N _ _ _ h1, h2⟩
  · cases h
theorem F_ref09_Few_l4_c (N : Nat) : SndC Tryz.prog glA hkA (.loop (roundOf Tryz.f19 [1, 0, 1, 2])) (byLoop [] F_ref09_Few_l4_p F_ref09_Few_l4_o (F_ref09_Few_l4_S N)) :=
  loop_sound (F_ref09_Few_ok N) (plok_of (show loopsOf Tryz.prog (F_ref09_Few_l4_q N) (roundOf Tryz.f19 [1, 0, 1, 2]) = some [] by kernel_rfl) trivial) (F_ref09_Few_l4_sp N)
def F_ref09_Few_pl (N : Nat) : Pl := (.two .auto (.two (.two .auto (.one (.by_ (byLoop [] F_ref09_Few_l4_p F_ref09_Few_l4_o (F_ref09_Few_l4_S N))))) .auto))
theorem F_ref09_Few_s (N : Nat) (x : El (tupU [(.sl uS1)])) : scall Tryz.prog glA (tabC (F_ref09_Few_ct N)) 1500 (F_ref09_Few_pl N) 19 (argsOf [(.sl uS1)] x) [] (retOf [.bool]) = F_ref09_Few N x.1 := by kernel_rfl
theorem F_ref09_Few_k (N : Nat) : ∀ fn b, Tryz.prog.funcs[19]? = some fn → fn.body = some b → PlOK Tryz.prog glA hkA (F_ref09_Few_pl N) b :=
  plok_fn Tryz.func19 (show (match Tryz.f19.body with | some b => loopsOf Tryz.prog (F_ref09_Few_pl N) b | none => none) = some [((roundOf Tryz.f19 [1, 0, 1, 2]), byLoop [] F_ref09_Few_l4_p F_ref09_Few_l4_o (F_ref09_Few_l4_S N))] by kernel_rfl) ⟨F_ref09_Few_l4_c N, trivial⟩
theorem F_ref09_Few_c (N : Nat) : SndF Tryz.prog glA hkA 19 (conF [(.sl uS1)] [.bool] fun x => F_ref09_Few N x.1) := con_sound (F_ref09_Few_ok N) (F_ref09_Few_k N) (F_ref09_Few_s N)
-- cubbyhole/reply.Count
def F_reply_Count_l9_t (N : Nat) {R : Type} (x4 : Int) (x5 : Int) (x6 : List (El uS1)) (x7 : Int) (x8 : Int) (rec_ : (Int) → (Int) → (List (El uS1)) → (Int) → (Int) → Option R) (o0 : (Int) → Option R) : Option R :=
  (cond (decide (x8 < x7)) (cond (inb x8 (List.length x6)) (cond ((nth uS1 x6 (Int.toNat x8)).1 == x4) (rec_ x4 (IntKind.wrap .i64 (x5 + (1 : Int))) x6 x7 (IntKind.wrap .i64 (x8 + (1 : Int)))) (rec_ x4 x5 x6 x7 (IntKind.wrap .i64 (x8 + (1 : Int))))) none) (o0 x5))
def F_reply_Count_l9 (N : Nat) : Nat → (Int) → (Int) → (List (El uS1)) → (Int) → (Int) → Option ((Int))
  | 0, _, _, _, _, _ => none
  | m + 1, x4, x5, x6, x7, x8 => F_reply_Count_l9_t N x4 x5 x6 x7 x8 (F_reply_Count_l9 N m) (fun v0 => some v0)
def F_reply_Count_l9_O (o : (Int)) : Nat × List Lf := (0, [.i o])
def F_reply_Count_l9_S (N : Nat) : LS := fun R ls κ => match ls with | [w0, w1, w2, w3, w4] => (Option.bind (getI w0) fun x4 => Option.bind (getI w1) fun x5 => Option.bind (getL uS1 w2) fun x6 => Option.bind (getI w3) fun x7 => Option.bind (getI w4) fun x8 => Option.bind (F_reply_Count_l9 N N x4 x5 x6 x7 x8) (fun o => κ 0 [.i o])) | _ => none
def F_reply_Count_l9_p : PS := ⟨[(.int .i64), .drop, .drop, .drop, .drop, (.int .i64), .drop, .drop, (.isl uS1), (.int .i64), (.int .i64), .drop, .drop, .drop, .drop, .drop, .drop, .drop, .drop, .drop, .drop, .drop], []⟩
def F_reply_Count_l9_o : List (SX × PS) := [(.exit 0, ⟨[.drop, .drop, .drop, .drop, .drop, (.int .i64), .drop, .drop, .drop, .drop, .drop, .drop, .drop, .drop, .drop, .drop, .drop, .drop, .drop, .drop, .drop, .drop], []⟩)]
def F_reply_Count (N : Nat) (p0 : Int) (p1 : (List (El uS1))) : Option (Int × Unit) :=
  (Option.bind (F_reply_Count_l9 N N p0 (0 : Int) p1 (((List.length p1) : Nat) : Int) (0 : Int)) fun o10 => (some (o10, ())))
def F_reply_Count_ct (N : Nat) : List (FuncId × CF) := [(20, conF [] [.bool] fun _ => some (true, ()))]
theorem F_reply_Count_ok (N : Nat) : CtOK Tryz.prog glA (tabC (F_reply_Count_ct N)) hkA := ctok hkok rfl ⟨yes_sound rfl, trivial⟩
def F_reply_Count_l9_q (N : Nat) : Pl := .auto
theorem F_reply_Count_l9_r (N : Nat) {R : Type} (x4 : Int) (x5 : Int) (x6 : List (El uS1)) (x7 : Int) (x8 : Int) (rec_ : List Lf → Option R) (out : Nat → List Lf → Option R) :
    round Tryz.prog glA (tabC (F_reply_Count_ct N)) 1500 (F_reply_Count_l9_q N) F_reply_Count_l9_p F_reply_Count_l9_o (roundOf Tryz.f24 [1, 1, 0, 1, 2]) [.i x4, .i x5, .l uS1 x6, .i x7, .i x8] rec_ out = F_reply_Count_l9_t N x4 x5 x6 x7 x8 (fun x4 x5 x6 x7 x8 => rec_ [.i x4, .i x5, .l uS1 x6, .i x7, .i x8]) (fun v0 => out 0 [.i v0]) := by kernel_rfl
theorem F_reply_Count_l9_rel {rd : RD} {O : Type} {OUT : O → Nat × List Lf} (N : Nat) (x4 : Int) (x5 : Int) (x6 : List (El uS1)) (x7 : Int) (x8 : Int) (r1 : (Int) → (Int) → (List (El uS1)) → (Int) → (Int) → Option O) (r2 : (Int) → (Int) → (List (El uS1)) → (Int) → (Int) → Option (List Lf ⊕ (Nat × List Lf))) (p0 : (Int) → Option O) (q0 : (Int) → Option (List Lf ⊕ (Nat × List Lf))) (hr : ∀ x4 x5 x6 x7 x8, Rel rd OUT (r1 x4 x5 x6 x7 x8) (r2 x4 x5 x6 x7 x8)) (h0 : ∀ v0, Rel rd OUT (p0 v0) (q0 v0)) :
    Rel rd OUT (F_reply_Count_l9_t N x4 x5 x6 x7 x8 r1 p0) (F_reply_Count_l9_t N x4 x5 x6 x7 x8 r2 q0) := by
  unfold F_reply_Count_l9_t
  exact (Rel.cond (Rel.cond (Rel.cond (hr _ _ _ _ _) (hr _ _ _ _ _)) Rel.none) (h0 _))
theorem F_reply_Count_l9_it (N : Nat) : ∀ (m : Nat) (x4 : Int) (x5 : Int) (x6 : List (El uS1)) (x7 : Int) (x8 : Int) (o : (Int)), F_reply_Count_l9 N m x4 x5 x6 x7 x8 = some o → It (round1 Tryz.prog glA (tabC (F_reply_Count_ct N)) 1500 (F_reply_Count_l9_q N) F_reply_Count_l9_p F_reply_Count_l9_o (roundOf Tryz.f24 [1, 1, 0, 1, 2])) [.i x4, .i x5, .l uS1 x6, .i x7, .i x8] (F_reply_Count_l9_O o)
  | 0, _, _, _, _, _, o, h => by cases h
  | m + 1, x4, x5, x6, x7, x8, o, h => Rel.it2 (F_reply_Count_l9_r N (R := List Lf ⊕ (Nat × List Lf)) x4 x5 x6 x7 x8 (fun l => some (.inl l)) (fun k os => some (.inr (k, os)))) (F_reply_Count_l9_rel N x4 x5 x6 x7 x8 _ _ _ _ (fun x4 x5 x6 x7 x8 => Rel.rec_ fun o h => F_reply_Count_l9_it N m x4 x5 x6 x7 x8 o h) (fun _ => Rel.out rfl)) h
theorem F_reply_Count_l9_sp (N : Nat) : LoopSpec (round1 Tryz.prog glA (tabC (F_reply_Count_ct N)) 1500 (F_reply_Count_l9_q N) F_reply_Count_l9_p F_reply_Count_l9_o (roundOf Tryz.f24 [1, 1, 0, 1, 2])) (F_reply_Count_l9_S N) := by
  intro R ls κ r h
  unfold F_reply_Count_l9_S at h
  split at h
  · obtain ⟨x4, e0, g0⟩ := bindS h
    obtain ⟨x5, e1, g1⟩ := bindS g0
    obtain ⟨x6, e2, g2⟩ := bindS g1
    obtain ⟨x7, e3, g3⟩ := bindS g2
    obtain ⟨x8, e4, g4⟩ := bindS g3
    cases getI_s e0
    cases getI_s e1
    cases getL_s e2
    cases getI_s e3
    cases getI_s e4
    obtain ⟨o, h1, h2⟩ := bindS g4
    exact ⟨_, _, F_reply_Count_l9_it N N _ _ _ _ _ o h1, h2⟩
  · cases h
theorem F_reply_Count_l9_c (N : Nat) : SndC Tryz.prog glA hkA (.loop (roundOf Tryz.f24 [1, 1, 0, 1, 2])) (byLoop [] F_reply_Count_l9_p F_reply_Count_l9_o (F_reply_Count_l9_S N)) :=
  loop_sound (F_reply_Count_ok N) (plok_of (show loopsOf Tryz.prog (F_reply_Count_l9_q N) (roundOf Tryz.f24 [1, 1, 0, 1, 2]) = some [] by kernel_rfl) trivial) (F_reply_Count_l9_sp N)
def F_reply_Count_pl (N : Nat) : Pl := (.two .auto (.two .auto (.two (.two .auto (.one (.by_ (byLoop [] F_reply_Count_l9_p F_reply_Count_l9_o (F_reply_Count_l9_S N))))) .auto)))
theorem F_reply_Count_s (N : Nat) (x : El (tupU [(.int .i64), (.sl uS1)])) : scall Tryz.prog glA (tabC (F_reply_Count_ct N)) 1500 (F_reply_Count_pl N) 24 (argsOf [(.int .i64), (.sl uS1)] x) [] (retOf [(.int .i64)]) = F_reply_Count N x.1 x.2.1 := by kernel_rfl
theorem F_reply_Count_k (N : Nat) : ∀ fn b, Tryz.prog.funcs[24]? = some fn → fn.body = some b → PlOK Tryz.prog glA hkA (F_reply_Count_pl N) b :=
  plok_fn Tryz.func24 (show (match Tryz.f24.body with | some b => loopsOf Tryz.prog (F_reply_Count_pl N) b | none => none) = some [((roundOf Tryz.f24 [1, 1, 0, 1, 2]), byLoop [] F_reply_Count_l9_p F_reply_Count_l9_o (F_reply_Count_l9_S N))] by kernel_rfl) ⟨F_reply_Count_l9_c N, trivial⟩
theorem F_reply_Count_c (N : Nat) : SndF Tryz.prog glA hkA 24 (conF [(.int .i64), (.sl uS1)] [(.int .i64)] fun x => F_reply_Count N x.1 x.2.1) := con_sound (F_reply_Count_ok N) (F_reply_Count_k N) (F_reply_Count_s N)
-- cubbyhole/cubbyholeref09.Same
def F_ref09_Same (N : Nat) (p0 : (El uS1)) (p1 : (El uS1)) : Option (Bool × Unit) :=
  (cond (p0.1 == p1.1) (cond (p0.2.1 == p1.2.1) (cond (p0.2.2.1 == p1.2.2.1) (cond (p0.2.2.2.1 == p1.2.2.2.1) (cond (p0.2.2.2.2.1 == p1.2.2.2.2.1) (cond (p0.2.2.2.2.2.1 == p1.2.2.2.2.2.1) (cond (p0.2.2.2.2.2.2.1 == p1.2.2.2.2.2.2.1) (cond (p0.2.2.2.2.2.2.2.1 == p1.2.2.2.2.2.2.2.1) (cond (p0.2.2.2.2.2.2.2.2.1 == p1.2.2.2.2.2.2.2.2.1) (some ((p0.2.2.2.2.2.2.2.2.2 == p1.2.2.2.2.2.2.2.2.2), ())) (some (false, ()))) (some (false, ()))) (some (false, ()))) (some (false, ()))) (some (false, ()))) (some (false, ()))) (some (false, ()))) (some (false, ()))) (some (false, ())))
def F_ref09_Same_ct (N : Nat) : List (FuncId × CF) := [(20, conF [] [.bool] fun _ => some (true, ()))]
theorem F_ref09_Same_ok (N : Nat) : CtOK Tryz.prog glA (tabC (F_ref09_Same_ct N)) hkA := ctok hkok rfl ⟨yes_sound rfl, trivial⟩
def F_ref09_Same_pl (N : Nat) : Pl := .auto
theorem F_ref09_Same_s (N : Nat) (x : El (tupU [uS1, uS1])) : scall Tryz.prog glA (tabC (F_ref09_Same_ct N)) 1500 (F_ref09_Same_pl N) 46 (argsOf [uS1, uS1] x) [] (retOf [.bool]) = F_ref09_Same N x.1 x.2.1 := by kernel_rfl
theorem F_ref09_Same_k (N : Nat) : ∀ fn b, Tryz.prog.funcs[46]? = some fn → fn.body = some b → PlOK Tryz.prog glA hkA (F_ref09_Same_pl N) b :=
  plok_fn Tryz.func46 (show (match Tryz.f46.body with | some b => loopsOf Tryz.prog (F_ref09_Same_pl N) b | none => none) = some [] by kernel_rfl) trivial
theorem F_ref09_Same_c (N : Nat) : SndF Tryz.prog glA hkA 46 (conF [uS1, uS1] [.bool] fun x => F_ref09_Same N x.1 x.2.1) := con_sound (F_ref09_Same_ok N) (F_ref09_Same_k N) (F_ref09_Same_s N)
-- cubbyhole/cubbyholeref09.SameList
def F_ref09_SameList_l8_t (N : Nat) {R : Type} (x4 : List (El uS1)) (x5 : List (El uS1)) (x6 : Int) (rec_ : (List (El uS1)) → (List (El uS1)) → (Int) → Option R) (o0 : Unit → Option R) (o1 : Unit → Option R) : Option R :=
  (cond (decide (x6 < (((List.length x4) : Nat) : Int))) (cond (inb x6 (List.length x4)) (cond (inb x6 (List.length x5)) (Option.bind (F_ref09_Same N (nth uS1 x4 (Int.toNat x6)) (nth uS1 x5 (Int.toNat x6))) fun y9 => (cond (!y9.1) (o0 ()) (rec_ x4 x5 (IntKind.wrap .i64 (x6 + (1 : Int)))))) none) none) (o1 ()))
def F_ref09_SameList_l8 (N : Nat) : Nat → (List (El uS1)) → (List (El uS1)) → (Int) → Option ((Unit) ⊕ (Unit))
  | 0, _, _, _ => none
  | m + 1, x4, x5, x6 => F_ref09_SameList_l8_t N x4 x5 x6 (F_ref09_SameList_l8 N m) (fun _ => some (Sum.inl ())) (fun _ => some (Sum.inr ()))
def F_ref09_SameList_l8_O (o : (Unit) ⊕ (Unit)) : Nat × List Lf := sumCase o (fun a => (0, [])) (fun b0 => (1, []))
def F_ref09_SameList_l8_S (N : Nat) : LS := fun R ls κ => match ls with | [w0, w1, w2] => (Option.bind (getL uS1 w0) fun x4 => Option.bind (getL uS1 w1) fun x5 => Option.bind (getI w2) fun x6 => Option.bind (F_ref09_SameList_l8 N N x4 x5 x6) (fun o => (sumCase o (fun a10 => κ 0 []) (fun b11 => κ 1 [])))) | _ => none
def F_ref09_SameList_l8_p : PS := ⟨[(.isl uS1), (.isl uS1), .drop, .drop, .drop, (.int .i64), .drop, .drop, .drop, .drop, .drop, .drop, .drop, .drop, .drop, .drop, .drop, .drop, .drop, .drop, .drop, .drop, .drop, .drop, .drop, .drop, .drop], []⟩
def F_ref09_SameList_l8_o : List (SX × PS) := [(.ret, ⟨[.drop, .drop, .drop, .drop, (.cst (.bool false)), .drop, .drop, .drop, .drop, .drop, .drop, .drop, .drop, .drop, .drop, .drop, .drop, .drop, .drop, .drop, .drop, .drop, .drop, .drop, .drop, .drop, .drop], []⟩), (.exit 0, ⟨[.drop, .drop, .drop, .drop, .drop, .drop, .drop, .drop, .drop, .drop, .drop, .drop, .drop, .drop, .drop, .drop, .drop, .drop, .drop, .drop, .drop, .drop, .drop, .drop, .drop, .drop, .drop], []⟩)]
def F_ref09_SameList (N : Nat) (p0 : (List (El uS1))) (p1 : (List (El uS1))) : Option (Bool × Unit) :=
  (cond ((((List.length p0) : Nat) : Int) != (((List.length p1) : Nat) : Int)) (some (false, ())) (Option.bind (F_ref09_SameList_l8 N N p0 p1 (0 : Int)) fun o12 => (sumCase o12 (fun a13 => (some (false, ()))) (fun b14 => (some (true, ()))))))
def F_ref09_SameList_ct (N : Nat) : List (FuncId × CF) := [(46, conF [uS1, uS1] [.bool] fun x => F_ref09_Same N x.1 x.2.1), (20, conF [] [.bool] fun _ => some (true, ()))]
theorem F_ref09_SameList_ok (N : Nat) : CtOK Tryz.prog glA (tabC (F_ref09_SameList_ct N)) hkA := ctok hkok rfl ⟨F_ref09_Same_c N, yes_sound rfl, trivial⟩
def F_ref09_SameList_l8_q (N : Nat) : Pl := .auto
theorem F_ref09_SameList_l8_r (N : Nat) {R : Type} (x4 : List (El uS1)) (x5 : List (El uS1)) (x6 : Int) (rec_ : List Lf → Option R) (out : Nat → List Lf → Option R) :
    round Tryz.prog glA (tabC (F_ref09_SameList_ct N)) 1500 (F_ref09_SameList_l8_q N) F_ref09_SameList_l8_p F_ref09_SameList_l8_o (roundOf Tryz.f25 [1, 1, 0, 1, 2]) [.l uS1 x4, .l uS1 x5, .i x6] rec_ out = F_ref09_SameList_l8_t N x4 x5 x6 (fun x4 x5 x6 => rec_ [.l uS1 x4, .l uS1 x5, .i x6]) (fun _ => out 0 []) (fun _ => out 1 []) := by kernel_rfl
theorem F_ref09_SameList_l8_rel {rd : RD} {O : Type} {OUT : O → Nat × List Lf} (N : Nat) (x4 : List (El uS1)) (x5 : List (El uS1)) (x6 : Int) (r1 : (List (El uS1)) → (List (El uS1)) → (Int) → Option O) (r2 : (List (El uS1)) → (List (El uS1)) → (Int) → Option (List Lf ⊕ (Nat × List Lf))) (p0 : Unit → Option O) (q0 : Unit → Option (List Lf ⊕ (Nat × List Lf))) (p1 : Unit → Option O) (q1 : Unit → Option (List Lf ⊕ (Nat × List Lf))) (hr : ∀ x4 x5 x6, Rel rd OUT (r1 x4 x5 x6) (r2 x4 x5 x6)) (h0 : ∀ v, Rel rd OUT (p0 v) (q0 v)) (h1 : ∀ v, Rel rd OUT (p1 v) (q1 v)) :
    Rel rd OUT (F_ref09_SameList_l8_t N x4 x5 x6 r1 p0 p1) (F_ref09_SameList_l8_t N x4 x5 x6 r2 q0 q1) := by
  unfold F_ref09_SameList_l8_t
  exact (Rel.cond (Rel.cond (Rel.cond (Rel.bind fun y9 => (Rel.cond (h0 _) (hr _ _ _))) Rel.none) Rel.none) (h1 _))
theorem F_ref09_SameList_l8_it (N : Nat) : ∀ (m : Nat) (x4 : List (El uS1)) (x5 : List (El uS1)) (x6 : Int) (o : (Unit) ⊕ (Unit)), F_ref09_SameList_l8 N m x4 x5 x6 = some o → It (round1 Tryz.prog glA (tabC (F_ref09_SameList_ct N)) 1500 (F_ref09_SameList_l8_q N) F_ref09_SameList_l8_p F_ref09_SameList_l8_o (roundOf Tryz.f25 [1, 1, 0, 1, 2])) [.l uS1 x4, .l uS1 x5, .i x6] (F_ref09_SameList_l8_O o)
  | 0, _, _, _, o, h => by cases h
  | m + 1, x4, x5, x6, o, h => Rel.it2 (F_ref09_SameList_l8_r N (R := List Lf ⊕ (Nat × List Lf)) x4 x5 x6 (fun l => some (.inl l)) (fun k os => some (.inr (k, os)))) (F_ref09_SameList_l8_rel N x4 x5 x6 _ _ _ _ _ _ (fun x4 x5 x6 => Rel.rec_ fun o h => F_ref09_SameList_l8_it N m x4 x5 x6 o h) (fun _ => Rel.out rfl) (fun _ => Rel.out rfl)) h
theorem F_ref09_SameList_l8_sp (N : Nat) : LoopSpec (round1 Tryz.prog glA (tabC (F_ref09_SameList_ct N)) 1500 (F_ref09_SameList_l8_q N) F_ref09_SameList_l8_p F_ref09_SameList_l8_o (roundOf Tryz.f25 [1, 1, 0, 1, 2])) (F_ref09_SameList_l8_S N) := by
  intro R ls κ r h
  unfold F_ref09_SameList_l8_S at h
  split at h
  · obtain ⟨x4, e0, g0⟩ := bindS h
    obtain ⟨x5, e1, g1⟩ := bindS g0
    obtain ⟨x6, e2, g2⟩ := bindS g1
    cases getL_s e0
    cases getL_s e1
    cases getI_s e2
    obtain ⟨o, h1, h2⟩ := bindS g2
    rcases o with o | o
    · exact ⟨_, _, F_ref09_SameList_l8_it N N _ _ _ _ h1, h2⟩
    · exact ⟨_, _, F_ref09_SameList_l8_it N N _ _ _ _ h1, h2⟩
  · cases h
theorem F_ref09_SameList_l8_c (N : Nat) : SndC Tryz.prog glA hkA (.loop (roundOf Tryz.f25 [1, 1, 0, 1, 2])) (byLoop [] F_ref09_SameList_l8_p F_ref09_SameList_l8_o (F_ref09_SameList_l8_S N)) :=
  loop_sound (F_ref09_SameList_ok N) (plok_of (show loopsOf Tryz.prog (F_ref09_SameList_l8_q N) (roundOf Tryz.f25 [1, 1, 0, 1, 2]) = some [] by kernel_rfl) trivial) (F_ref09_SameList_l8_sp N)
def F_ref09_SameList_pl (N : Nat) : Pl := (.two .auto (.two .auto (.two (.two .auto (.one (.by_ (byLoop [] F_ref09_SameList_l8_p F_ref09_SameList_l8_o (F_ref09_SameList_l8_S N))))) .auto)))
theorem F_ref09_SameList_s (N : Nat) (x : El (tupU [(.sl uS1), (.sl uS1)])) : scall Tryz.prog glA (tabC (F_ref09_SameList_ct N)) 1500 (F_ref09_SameList_pl N) 25 (argsOf [(.sl uS1), (.sl uS1)] x) [] (retOf [.bool]) = F_ref09_SameList N x.1 x.2.1 := by kernel_rfl
theorem F_ref09_SameList_k (N : Nat) : ∀ fn b, Tryz.prog.funcs[25]? = some fn → fn.body = some b → PlOK Tryz.prog glA hkA (F_ref09_SameList_pl N) b :=
  plok_fn Tryz.func25 (show (match Tryz.f25.body with | some b => loopsOf Tryz.prog (F_ref09_SameList_pl N) b | none => none) = some [((roundOf Tryz.f25 [1, 1, 0, 1, 2]), byLoop [] F_ref09_SameList_l8_p F_ref09_SameList_l8_o (F_ref09_SameList_l8_S N))] by kernel_rfl) ⟨F_ref09_SameList_l8_c N, trivial⟩
theorem F_ref09_SameList_c (N : Nat) : SndF Tryz.prog glA hkA 25 (conF [(.sl uS1), (.sl uS1)] [.bool] fun x => F_ref09_SameList N x.1 x.2.1) := con_sound (F_ref09_SameList_ok N) (F_ref09_SameList_k N) (F_ref09_SameList_s N)
-- slices.Clone[[]byte,byte]
def F_slices_Clone_byte_byte (N : Nat) (p0 : (List UInt8)) : Option ((List UInt8) × Unit) :=
  (cond (Nat.blt (0 + (List.length p0)) lim39) (some ((([] : List UInt8) ++ p0), ())) none)
def F_slices_Clone_byte_byte_ct (N : Nat) : List (FuncId × CF) := [(20, conF [] [.bool] fun _ => some (true, ()))]
theorem F_slices_Clone_byte_byte_ok (N : Nat) : CtOK Tryz.prog glA (tabC (F_slices_Clone_byte_byte_ct N)) hkA := ctok hkok rfl ⟨yes_sound rfl, trivial⟩
def F_slices_Clone_byte_byte_pl (N : Nat) : Pl := .auto
theorem F_slices_Clone_byte_byte_s1 (N : Nat) (l : List (El .u8)) : scall Tryz.prog glA (tabC (F_slices_Clone_byte_byte_ct N)) 1500 (F_slices_Clone_byte_byte_pl N) 36 [.nsl .u8 l] [] (retOf [(.sl .u8)]) = F_slices_Clone_byte_byte N l := by kernel_rfl
theorem F_slices_Clone_byte_byte_s2 (N : Nat)  : scall Tryz.prog glA (tabC (F_slices_Clone_byte_byte_ct N)) 1500 (F_slices_Clone_byte_byte_pl N) 36 [.a .nils] [] (retOf [(.sl .u8)]) = F_slices_Clone_byte_byte N [] := by kernel_rfl
theorem F_slices_Clone_byte_byte_k (N : Nat) : ∀ fn b, Tryz.prog.funcs[36]? = some fn → fn.body = some b → PlOK Tryz.prog glA hkA (F_slices_Clone_byte_byte_pl N) b :=
  plok_fn Tryz.func36 (show (match Tryz.f36.body with | some b => loopsOf Tryz.prog (F_slices_Clone_byte_byte_pl N) b | none => none) = some [] by kernel_rfl) trivial
theorem F_slices_Clone_byte_byte_c (N : Nat) : SndF Tryz.prog glA hkA 36 (conF [(.sl .u8)] [(.sl .u8)] fun x => F_slices_Clone_byte_byte N x.1) := con_sound_nil (F_slices_Clone_byte_byte_ok N) (F_slices_Clone_byte_byte_k N) (F_slices_Clone_byte_byte_s1 N) (F_slices_Clone_byte_byte_s2 N)
-- cubbyhole/reply.own
def F_reply_own_l17_t (N : Nat) {R : Type} (x12 : List (El uS1)) (x13 : Int) (x14 : Int) (x15 : List (El uS1)) (rec_ : (List (El uS1)) → (Int) → (Int) → (List (El uS1)) → Option R) (o0 : (List (El uS1)) → Option R) : Option R :=
  (cond (decide (x14 < x13)) (cond (inb x14 (List.length x12)) (Option.bind (F_slices_Clone_byte_byte N (nth uS1 x12 (Int.toNat x14)).2.2.2.2.2.2.2.2.2) fun y18 => (cond (Nat.blt ((List.length x15) + 1) lim39) (rec_ x12 x13 (IntKind.wrap .i64 (x14 + (1 : Int))) (x15 ++ ([((nth uS1 x12 (Int.toNat x14)).1, ((nth uS1 x12 (Int.toNat x14)).2.1, ((nth uS1 x12 (Int.toNat x14)).2.2.1, ((nth uS1 x12 (Int.toNat x14)).2.2.2.1, ((nth uS1 x12 (Int.toNat x14)).2.2.2.2.1, ((nth uS1 x12 (Int.toNat x14)).2.2.2.2.2.1, ((nth uS1 x12 (Int.toNat x14)).2.2.2.2.2.2.1, ((nth uS1 x12 (Int.toNat x14)).2.2.2.2.2.2.2.1, ((nth uS1 x12 (Int.toNat x14)).2.2.2.2.2.2.2.2.1, y18.1)))))))))] : List (El uS1)))) none)) none) (o0 x15))
def F_reply_own_l17 (N : Nat) : Nat → (List (El uS1)) → (Int) → (Int) → (List (El uS1)) → Option ((List (El uS1)))
  | 0, _, _, _, _ => none
  | m + 1, x12, x13, x14, x15 => F_reply_own_l17_t N x12 x13 x14 x15 (F_reply_own_l17 N m) (fun v0 => some v0)
def F_reply_own_l17_O (o : (List (El uS1))) : Nat × List Lf := (0, [.l uS1 o])
def F_reply_own_l17_S (N : Nat) : LS := fun R ls κ => match ls with | [w0, w1, w2, w3] => (Option.bind (getL uS1 w0) fun x12 => Option.bind (getI w1) fun x13 => Option.bind (getI w2) fun x14 => Option.bind (getL uS1 w3) fun x15 => Option.bind (F_reply_own_l17 N N x12 x13 x14 x15) (fun o => κ 0 [.l uS1 o])) | _ => none
def F_reply_own_l17_p : PS := ⟨[.drop, .drop, .drop, (.gs 0 1), .drop, .drop, (.isl uS1), (.int .i64), (.int .i64), .drop, .drop, .drop, .drop, .drop, .drop, .drop, .drop, .drop, .drop, .drop, .drop, .drop], [.seq uS1 1 0 false]⟩
def F_reply_own_l17_o : List (SX × PS) := [(.exit 0, ⟨[.drop, .drop, .drop, (.gs 0 1), .drop, .drop, .drop, .drop, .drop, .drop, .drop, .drop, .drop, .drop, .drop, .drop, .drop, .drop, .drop, .drop, .drop, .drop], [.seq uS1 1 0 false]⟩)]
def F_reply_own (N : Nat) (p0 : (List (El uS1))) : Option ((List (El uS1)) × Unit) :=
  (Option.bind (F_reply_own_l17 N N p0 (((List.length p0) : Nat) : Int) (0 : Int) ([] : List (El uS1))) fun o19 => (some (o19, ())))
def F_reply_own_ct (N : Nat) : List (FuncId × CF) := [(36, conF [(.sl .u8)] [(.sl .u8)] fun x => F_slices_Clone_byte_byte N x.1), (20, conF [] [.bool] fun _ => some (true, ()))]
theorem F_reply_own_ok (N : Nat) : CtOK Tryz.prog glA (tabC (F_reply_own_ct N)) hkA := ctok hkok rfl ⟨F_slices_Clone_byte_byte_c N, yes_sound rfl, trivial⟩
def F_reply_own_l17_q (N : Nat) : Pl := .auto
theorem F_reply_own_l17_r (N : Nat) {R : Type} (x12 : List (El uS1)) (x13 : Int) (x14 : Int) (x15 : List (El uS1)) (rec_ : List Lf → Option R) (out : Nat → List Lf → Option R) :
    round Tryz.prog glA (tabC (F_reply_own_ct N)) 1500 (F_reply_own_l17_q N) F_reply_own_l17_p F_reply_own_l17_o (roundOf Tryz.f45 [1, 1, 0, 1, 2]) [.l uS1 x12, .i x13, .i x14, .l uS1 x15] rec_ out = F_reply_own_l17_t N x12 x13 x14 x15 (fun x12 x13 x14 x15 => rec_ [.l uS1 x12, .i x13, .i x14, .l uS1 x15]) (fun v0 => out 0 [.l uS1 v0]) := by kernel_rfl
theorem F_reply_own_l17_rel {rd : RD} {O : Type} {OUT : O → Nat × List Lf} (N : Nat) (x12 : List (El uS1)) (x13 : Int) (x14 : Int) (x15 : List (El uS1)) (r1 : (List (El uS1)) → (Int) → (Int) → (List (El uS1)) → Option O) (r2 : (List (El uS1)) → (Int) → (Int) → (List (El uS1)) → Option (List Lf ⊕ (Nat × List Lf))) (p0 : (List (El uS1)) → Option O) (q0 : (List (El uS1)) → Option (List Lf ⊕ (Nat × List Lf))) (hr : ∀ x12 x13 x14 x15, Rel rd OUT (r1 x12 x13 x14 x15) (r2 x12 x13 x14 x15)) (h0 : ∀ v0, Rel rd OUT (p0 v0) (q0 v0)) :
    Rel rd OUT (F_reply_own_l17_t N x12 x13 x14 x15 r1 p0) (F_reply_own_l17_t N x12 x13 x14 x15 r2 q0) := by
  unfold F_reply_own_l17_t
  exact (Rel.cond (Rel.cond (Rel.bind fun y18 => (Rel.cond (hr _ _ _ _) Rel.none)) Rel.none) (h0 _))
theorem F_reply_own_l17_it (N : Nat) : ∀ (m : Nat) (x12 : List (El uS1)) (x13 : Int) (x14 : Int) (x15 : List (El uS1)) (o : (List (El uS1))), F_reply_own_l17 N m x12 x13 x14 x15 = some o → It (round1 Tryz.prog glA (tabC (F_reply_own_ct N)) 1500 (F_reply_own_l17_q N) F_reply_own_l17_p F_reply_own_l17_o (roundOf Tryz.f45 [1, 1, 0, 1, 2])) [.l uS1 x12, .i x13, .i x14, .l uS1 x15] (F_reply_own_l17_O o)
  | 0, _, _, _, _, o, h => by cases h
  | m + 1, x12, x13, x14, x15, o, h => Rel.it2 (F_reply_own_l17_r N (R := List Lf ⊕ (Nat × List Lf)) x12 x13 x14 x15 (fun l => some (.inl l)) (fun k os => some (.inr (k, os)))) (F_reply_own_l17_rel N x12 x13 x14 x15 _ _ _ _ (fun x12 x13 x14 x15 => Rel.rec_ fun o h => F_reply_own_l17_it N m x12 x13 x14 x15 o h) (fun _ => Rel.out rfl)) h
theorem F_reply_own_l17_sp (N : Nat) : LoopSpec (round1 Tryz.prog glA (tabC (F_reply_own_ct N)) 1500 (F_reply_own_l17_q N) F_reply_own_l17_p F_reply_own_l17_o (roundOf Tryz.f45 [1, 1, 0, 1, 2])) (F_reply_own_l17_S N) := by
  intro R ls κ r h
  unfold F_reply_own_l17_S at h
  split at h
  · obtain ⟨x12, e0, g0⟩ := bindS h
    obtain ⟨x13, e1, g1⟩ := bindS g0
    obtain ⟨x14, e2, g2⟩ := bindS g1
    obtain ⟨x15, e3, g3⟩ := bindS g2
    cases getL_s e0
    cases getI_s e1
    cases getI_s e2
    cases getL_s e3
    obtain ⟨o, h1, h2⟩ := bindS g3
    exact ⟨_, _, F_reply_own_l17_it N N _ _ _ _ o h1, h2⟩
  · cases h
theorem F_reply_own_l17_c (N : Nat) : SndC Tryz.prog glA hkA (.loop (roundOf Tryz.f45 [1, 1, 0, 1, 2])) (byLoop [(3, uS1)] F_reply_own_l17_p F_reply_own_l17_o (F_reply_own_l17_S N)) :=
  loop_sound (F_reply_own_ok N) (plok_of (show loopsOf Tryz.prog (F_reply_own_l17_q N) (roundOf Tryz.f45 [1, 1, 0, 1, 2]) = some [] by kernel_rfl) trivial) (F_reply_own_l17_sp N)
def F_reply_own_pl (N : Nat) : Pl := (.two .auto (.two .auto (.two (.two .auto (.one (.by_ (byLoop [(3, uS1)] F_reply_own_l17_p F_reply_own_l17_o (F_reply_own_l17_S N))))) .auto)))
theorem F_reply_own_s (N : Nat) (x : El (tupU [(.sl uS1)])) : scall Tryz.prog glA (tabC (F_reply_own_ct N)) 1500 (F_reply_own_pl N) 45 (argsOf [(.sl uS1)] x) [] (retOf [(.sl uS1)]) = F_reply_own N x.1 := by kernel_rfl
theorem F_reply_own_k (N : Nat) : ∀ fn b, Tryz.prog.funcs[45]? = some fn → fn.body = some b → PlOK Tryz.prog glA hkA (F_reply_own_pl N) b :=
  plok_fn Tryz.func45 (show (match Tryz.f45.body with | some b => loopsOf Tryz.prog (F_reply_own_pl N) b | none => none) = some [((roundOf Tryz.f45 [1, 1, 0, 1, 2]), byLoop [(3, uS1)] F_reply_own_l17_p F_reply_own_l17_o (F_reply_own_l17_S N))] by kernel_rfl) ⟨F_reply_own_l17_c N, trivial⟩
theorem F_reply_own_c (N : Nat) : SndF Tryz.prog glA hkA 45 (conF [(.sl uS1)] [(.sl uS1)] fun x => F_reply_own N x.1) := con_sound (F_reply_own_ok N) (F_reply_own_k N) (F_reply_own_s N)
-- cubbyhole/reply.Until
def F_reply_Until_l10_t (N : Nat) {R : Type} (x6 : List (El uS1)) (x7 : Int) (x8 : Int) (x9 : List UInt8) (rec_ : (List (El uS1)) → (Int) → (Int) → (List UInt8) → Option R) (o0 : (Int) → (List UInt8) → Option R) (o1 : (List UInt8) → Option R) : Option R :=
  (cond (decide (x8 < x7)) (cond (inb x8 (List.length x6)) (cond ((nth uS1 x6 (Int.toNat x8)).1 == (9 : Int)) (cond ((nth uS1 x6 (Int.toNat x8)).2.2.1 == x9) (o0 x8 x9) (rec_ x6 x7 (IntKind.wrap .i64 (x8 + (1 : Int))) x9)) (rec_ x6 x7 (IntKind.wrap .i64 (x8 + (1 : Int))) x9)) none) (o1 x9))
def F_reply_Until_l10 (N : Nat) : Nat → (List (El uS1)) → (Int) → (Int) → (List UInt8) → Option (((Int) × (List UInt8)) ⊕ ((List UInt8)))
  | 0, _, _, _, _ => none
  | m + 1, x6, x7, x8, x9 => F_reply_Until_l10_t N x6 x7 x8 x9 (F_reply_Until_l10 N m) (fun v0 v1 => some (Sum.inl (v0, v1))) (fun v0 => some (Sum.inr v0))
def F_reply_Until_l10_O (o : ((Int) × (List UInt8)) ⊕ ((List UInt8))) : Nat × List Lf := sumCase o (fun a => (0, [.i a.1, .s a.2])) (fun b0 => (1, [.s b0]))
def F_reply_Until_l10_S (N : Nat) : LS := fun R ls κ => match ls with | [w0, w1, w2, w3] => (Option.bind (getL uS1 w0) fun x6 => Option.bind (getI w1) fun x7 => Option.bind (getI w2) fun x8 => Option.bind (getS w3) fun x9 => Option.bind (F_reply_Until_l10 N N x6 x7 x8 x9) (fun o => (sumCase o (fun a11 => κ 0 [.i a11.1, .s a11.2]) (fun b12 => κ 1 [.s b12])))) | _ => none
def F_reply_Until_l10_p : PS := ⟨[(.isl uS1), (.fn 44 [] [(.ptr 0 0 1)]), .drop, .drop, .drop, .drop, .drop, (.int .i64), (.int .i64), .drop, .drop, .drop, .drop, .drop, .drop, .drop, .drop, .drop, .drop], [.cells [.str] 0]⟩
def F_reply_Until_l10_o : List (SX × PS) := [(.ret, ⟨[.drop, .drop, .drop, .drop, (.int .i64), .drop, .drop, .drop, .drop, .drop, .drop, .drop, .drop, .drop, .drop, .drop, .drop, .drop, .drop], [.cells [.str] 0]⟩), (.exit 0, ⟨[.drop, .drop, .drop, .drop, .drop, .drop, .drop, .drop, .drop, .drop, .drop, .drop, .drop, .drop, .drop, .drop, .drop, .drop, .drop], [.cells [.str] 0]⟩)]
def F_reply_Until (N : Nat) (p0 : (List UInt8)) (p1 : (List (El uS1))) : Option ((List (El uS1)) × (List (El uS1)) × Bool × Unit) :=
  (Option.bind (F_reply_Until_l10 N N p1 (((List.length p1) : Nat) : Int) (0 : Int) p0) fun o13 => (sumCase o13 (fun a14 => (cond (decide (a14.1 < (0 : Int))) (Option.bind (F_reply_own N p1) fun y16 => (some (y16.1, ([] : List (El uS1)), false, ()))) (cond ((bnds (0 : Int) a14.1 (List.length p1)) && true) (cond ((bnds (IntKind.wrap .i64 (a14.1 + (1 : Int))) (((List.length p1) : Nat) : Int) (List.length p1)) && true) (Option.bind (F_reply_own N (slice p1 0 (Int.toNat a14.1))) fun y17 => (Option.bind (F_reply_own N (slice p1 (Int.toNat (IntKind.wrap .i64 (a14.1 + (1 : Int)))) (Int.toNat (((List.length p1) : Nat) : Int)))) fun y18 => (some (y17.1, y18.1, true, ())))) none) none))) (fun b15 => (Option.bind (F_reply_own N p1) fun y19 => (some (y19.1, ([] : List (El uS1)), false, ()))))))
def F_reply_Until_ct (N : Nat) : List (FuncId × CF) := [(45, conF [(.sl uS1)] [(.sl uS1)] fun x => F_reply_own N x.1), (20, conF [] [.bool] fun _ => some (true, ()))]
theorem F_reply_Until_ok (N : Nat) : CtOK Tryz.prog glA (tabC (F_reply_Until_ct N)) hkA := ctok hkok rfl ⟨F_reply_own_c N, yes_sound rfl, trivial⟩
def F_reply_Until_l10_q (N : Nat) : Pl := .auto
theorem F_reply_Until_l10_r (N : Nat) {R : Type} (x6 : List (El uS1)) (x7 : Int) (x8 : Int) (x9 : List UInt8) (rec_ : List Lf → Option R) (out : Nat → List Lf → Option R) :
    round Tryz.prog glA (tabC (F_reply_Until_ct N)) 1500 (F_reply_Until_l10_q N) F_reply_Until_l10_p F_reply_Until_l10_o (roundOf Tryz.f21 [1, 0, 1, 2]) [.l uS1 x6, .i x7, .i x8, .s x9] rec_ out = F_reply_Until_l10_t N x6 x7 x8 x9 (fun x6 x7 x8 x9 => rec_ [.l uS1 x6, .i x7, .i x8, .s x9]) (fun v0 v1 => out 0 [.i v0, .s v1]) (fun v0 => out 1 [.s v0]) := by kernel_rfl
theorem F_reply_Until_l10_rel {rd : RD} {O : Type} {OUT : O → Nat × List Lf} (N : Nat) (x6 : List (El uS1)) (x7 : Int) (x8 : Int) (x9 : List UInt8) (r1 : (List (El uS1)) → (Int) → (Int) → (List UInt8) → Option O) (r2 : (List (El uS1)) → (Int) → (Int) → (List UInt8) → Option (List Lf ⊕ (Nat × List Lf))) (p0 : (Int) → (List UInt8) → Option O) (q0 : (Int) → (List UInt8) → Option (List Lf ⊕ (Nat × List Lf))) (p1 : (List UInt8) → Option O) (q1 : (List UInt8) → Option (List Lf ⊕ (Nat × List Lf))) (hr : ∀ x6 x7 x8 x9, Rel rd OUT (r1 x6 x7 x8 x9) (r2 x6 x7 x8 x9)) (h0 : ∀ v0 v1, Rel rd OUT (p0 v0 v1) (q0 v0 v1)) (h1 : ∀ v0, Rel rd OUT (p1 v0) (q1 v0)) :
    Rel rd OUT (F_reply_Until_l10_t N x6 x7 x8 x9 r1 p0 p1) (F_reply_Until_l10_t N x6 x7 x8 x9 r2 q0 q1) := by
  unfold F_reply_Until_l10_t
  exact (Rel.cond (Rel.cond (Rel.cond (Rel.cond (h0 _ _) (hr _ _ _ _)) (hr _ _ _ _)) Rel.none) (h1 _))
theorem F_reply_Until_l10_it (N : Nat) : ∀ (m : Nat) (x6 : List (El uS1)) (x7 : Int) (x8 : Int) (x9 : List UInt8) (o : ((Int) × (List UInt8)) ⊕ ((List UInt8))), F_reply_Until_l10 N m x6 x7 x8 x9 = some o → It (round1 Tryz.prog glA (tabC (F_reply_Until_ct N)) 1500 (F_reply_Until_l10_q N) F_reply_Until_l10_p F_reply_Until_l10_o (roundOf Tryz.f21 [1, 0, 1, 2])) [.l uS1 x6, .i x7, .i x8, .s x9] (F_reply_Until_l10_O o)
  | 0, _, _, _, _, o, h => by cases h
  | m + 1, x6, x7, x8, x9, o, h => Rel.it2 (F_reply_Until_l10_r N (R := List Lf ⊕ (Nat × List Lf)) x6 x7 x8 x9 (fun l => some (.inl l)) (fun k os => some (.inr (k, os)))) (F_reply_Until_l10_rel N x6 x7 x8 x9 _ _ _ _ _ _ (fun x6 x7 x8 x9 => Rel.rec_ fun o h => F_reply_Until_l10_it N m x6 x7 x8 x9 o h) (fun _ _ => Rel.out rfl) (fun _ => Rel.out rfl)) h
theorem F_reply_Until_l10_sp (N : Nat) : LoopSpec (round1 Tryz.prog glA (tabC (F_reply_Until_ct N)) 1500 (F_reply_Until_l10_q N) F_reply_Until_l10_p F_reply_Until_l10_o (roundOf Tryz.f21 [1, 0, 1, 2])) (F_reply_Until_l10_S N) := by
  intro R ls κ r h
  unfold F_reply_Until_l10_S at h
  split at h
  · obtain ⟨x6, e0, g0⟩ := bindS h
    obtain ⟨x7, e1, g1⟩ := bindS g0
    obtain ⟨x8, e2, g2⟩ := bindS g1
    obtain ⟨x9, e3, g3⟩ := bindS g2
    cases getL_s e0
    cases getI_s e1
    cases getI_s e2
    cases getS_s e3
    obtain ⟨o, h1, h2⟩ := bindS g3
    rcases o with o | o
    · exact ⟨_, _, F_reply_Until_l10_it N N _ _ _ _ _ h1, h2⟩
    · exact ⟨_, _, F_reply_Until_l10_it N N _ _ _ _ _ h1, h2⟩
  · cases h
theorem F_reply_Until_l10_c (N : Nat) : SndC Tryz.prog glA hkA (.loop (roundOf Tryz.f21 [1, 0, 1, 2])) (byLoop [] F_reply_Until_l10_p F_reply_Until_l10_o (F_reply_Until_l10_S N)) :=
  loop_sound (F_reply_Until_ok N) (plok_of (show loopsOf Tryz.prog (F_reply_Until_l10_q N) (roundOf Tryz.f21 [1, 0, 1, 2]) = some [] by kernel_rfl) trivial) (F_reply_Until_l10_sp N)
def F_reply_Until_pl (N : Nat) : Pl := (.two .auto (.two (.cal 2 21 (.two .auto (.two (.two .auto (.one (.by_ (byLoop [] F_reply_Until_l10_p F_reply_Until_l10_o (F_reply_Until_l10_S N))))) .auto)) .auto) .auto))
theorem F_reply_Until_s (N : Nat) (x : El (tupU [.str, (.sl uS1)])) : scall Tryz.prog glA (tabC (F_reply_Until_ct N)) 1500 (F_reply_Until_pl N) 23 (argsOf [.str, (.sl uS1)] x) [] (retOf [(.sl uS1), (.sl uS1), .bool]) = F_reply_Until N x.1 x.2.1 := by kernel_rfl
theorem F_reply_Until_k (N : Nat) : ∀ fn b, Tryz.prog.funcs[23]? = some fn → fn.body = some b → PlOK Tryz.prog glA hkA (F_reply_Until_pl N) b :=
  plok_fn Tryz.func23 (show (match Tryz.f23.body with | some b => loopsOf Tryz.prog (F_reply_Until_pl N) b | none => none) = some [((roundOf Tryz.f21 [1, 0, 1, 2]), byLoop [] F_reply_Until_l10_p F_reply_Until_l10_o (F_reply_Until_l10_S N))] by kernel_rfl) ⟨F_reply_Until_l10_c N, trivial⟩
theorem F_reply_Until_c (N : Nat) : SndF Tryz.prog glA hkA 23 (conF [.str, (.sl uS1)] [(.sl uS1), (.sl uS1), .bool] fun x => F_reply_Until N x.1 x.2.1) := con_sound (F_reply_Until_ok N) (F_reply_Until_k N) (F_reply_Until_s N)
-- cubbyhole/reply.Tagged
def F_reply_Tagged_l17_t (N : Nat) {R : Type} (x12 : List (El uS1)) (x13 : Int) (x14 : Int) (x15 : List (El uS1)) (rec_ : (List (El uS1)) → (Int) → (Int) → (List (El uS1)) → Option R) (o0 : (List (El uS1)) → Option R) : Option R :=
  (cond (decide (x14 < x13)) (cond (inb x14 (List.length x12)) (Option.bind (F_slices_Clone_byte_byte N (nth uS1 x12 (Int.toNat x14)).2.2.2.2.2.2.2.2.2) fun y18 => (cond (Nat.blt ((List.length x15) + 1) lim39) (rec_ x12 x13 (IntKind.wrap .i64 (x14 + (1 : Int))) (x15 ++ ([((nth uS1 x12 (Int.toNat x14)).1, ((nth uS1 x12 (Int.toNat x14)).2.1, ((nth uS1 x12 (Int.toNat x14)).2.2.1, ((nth uS1 x12 (Int.toNat x14)).2.2.2.1, ((nth uS1 x12 (Int.toNat x14)).2.2.2.2.1, ((nth uS1 x12 (Int.toNat x14)).2.2.2.2.2.1, ((nth uS1 x12 (Int.toNat x14)).2.2.2.2.2.2.1, ((nth uS1 x12 (Int.toNat x14)).2.2.2.2.2.2.2.1, ((nth uS1 x12 (Int.toNat x14)).2.2.2.2.2.2.2.2.1, y18.1)))))))))] : List (El uS1)))) none)) none) (o0 x15))
def F_reply_Tagged_l17 (N : Nat) : Nat → (List (El uS1)) → (Int) → (Int) → (List (El uS1)) → Option ((List (El uS1)))
  | 0, _, _, _, _ => none
  | m + 1, x12, x13, x14, x15 => F_reply_Tagged_l17_t N x12 x13 x14 x15 (F_reply_Tagged_l17 N m) (fun v0 => some v0)
def F_reply_Tagged_l17_O (o : (List (El uS1))) : Nat × List Lf := (0, [.l uS1 o])
def F_reply_Tagged_l17_S (N : Nat) : LS := fun R ls κ => match ls with | [w0, w1, w2, w3] => (Option.bind (getL uS1 w0) fun x12 => Option.bind (getI w1) fun x13 => Option.bind (getI w2) fun x14 => Option.bind (getL uS1 w3) fun x15 => Option.bind (F_reply_Tagged_l17 N N x12 x13 x14 x15) (fun o => κ 0 [.l uS1 o])) | _ => none
def F_reply_Tagged_l17_p : PS := ⟨[.drop, .drop, .drop, (.gs 0 1), .drop, .drop, (.isl uS1), (.int .i64), (.int .i64), .drop, .drop, .drop, .drop, .drop, .drop, .drop, .drop, .drop, .drop, .drop, .drop, .drop], [.seq uS1 1 0 false]⟩
def F_reply_Tagged_l17_o : List (SX × PS) := [(.exit 0, ⟨[.drop, .drop, .drop, (.gs 0 1), .drop, .drop, .drop, .drop, .drop, .drop, .drop, .drop, .drop, .drop, .drop, .drop, .drop, .drop, .drop, .drop, .drop, .drop], [.seq uS1 1 0 false]⟩)]
def F_reply_Tagged_l25_t (N : Nat) {R : Type} (x22 : Int) (x23 : Int) (x24 : List (El uS1)) (rec_ : (Int) → (Int) → (List (El uS1)) → Option R) (o0 : (Int) → (List (El uS1)) → Option R) (o1 : (List (El uS1)) → Option R) : Option R :=
  (cond (decide (x23 < x22)) (cond (inb x23 (List.length x24)) (cond ((nth uS1 x24 (Int.toNat x23)).1 != (9 : Int)) (o0 x23 x24) (rec_ x22 (IntKind.wrap .i64 (x23 + (1 : Int))) x24)) none) (o1 x24))
def F_reply_Tagged_l25 (N : Nat) : Nat → (Int) → (Int) → (List (El uS1)) → Option (((Int) × (List (El uS1))) ⊕ ((List (El uS1))))
  | 0, _, _, _ => none
  | m + 1, x22, x23, x24 => F_reply_Tagged_l25_t N x22 x23 x24 (F_reply_Tagged_l25 N m) (fun v0 v1 => some (Sum.inl (v0, v1))) (fun v0 => some (Sum.inr v0))
def F_reply_Tagged_l25_O (o : ((Int) × (List (El uS1))) ⊕ ((List (El uS1)))) : Nat × List Lf := sumCase o (fun a => (0, [.i a.1, .l uS1 a.2])) (fun b0 => (1, [.l uS1 b0]))
def F_reply_Tagged_l25_S (N : Nat) : LS := fun R ls κ => match ls with | [w0, w1, w2] => (Option.bind (getI w0) fun x22 => Option.bind (getI w1) fun x23 => Option.bind (getL uS1 w2) fun x24 => Option.bind (F_reply_Tagged_l25 N N x22 x23 x24) (fun o => (sumCase o (fun a26 => κ 0 [.i a26.1, .l uS1 a26.2]) (fun b27 => κ 1 [.l uS1 b27])))) | _ => none
def F_reply_Tagged_l25_p : PS := ⟨[(.gs 0 1), (.fn 48 [] []), .drop, .drop, .drop, .drop, .drop, (.int .i64), (.int .i64), .drop, .drop, .drop, .drop, .drop, .drop, .drop, .drop, .drop, .drop], [.seq uS1 1 0 true]⟩
def F_reply_Tagged_l25_o : List (SX × PS) := [(.ret, ⟨[.drop, .drop, .drop, .drop, (.int .i64), .drop, .drop, .drop, .drop, .drop, .drop, .drop, .drop, .drop, .drop, .drop, .drop, .drop, .drop], [.seq uS1 1 0 true]⟩), (.exit 0, ⟨[.drop, .drop, .drop, .drop, .drop, .drop, .drop, .drop, .drop, .drop, .drop, .drop, .drop, .drop, .drop, .drop, .drop, .drop, .drop], [.seq uS1 1 0 true]⟩)]
def F_reply_Tagged_l34_t (N : Nat) {R : Type} (x31 : Int) (x32 : Int) (x33 : List (El uS1)) (rec_ : (Int) → (Int) → (List (El uS1)) → Option R) (o0 : (Int) → (List (El uS1)) → Option R) : Option R :=
  (cond (decide (x32 < (((List.length x33) : Nat) : Int))) (cond (inb x32 (List.length x33)) (cond (!((nth uS1 x33 (Int.toNat x32)).1 != (9 : Int))) (cond (inb x31 (List.length x33)) (rec_ (IntKind.wrap .i64 (x31 + (1 : Int))) (IntKind.wrap .i64 (x32 + (1 : Int))) (List.set x33 (Int.toNat x31) (nth uS1 x33 (Int.toNat x32)))) none) (rec_ x31 (IntKind.wrap .i64 (x32 + (1 : Int))) x33)) none) (o0 x31 x33))
def F_reply_Tagged_l34 (N : Nat) : Nat → (Int) → (Int) → (List (El uS1)) → Option ((Int) × (List (El uS1)))
  | 0, _, _, _ => none
  | m + 1, x31, x32, x33 => F_reply_Tagged_l34_t N x31 x32 x33 (F_reply_Tagged_l34 N m) (fun v0 v1 => some (v0, v1))
def F_reply_Tagged_l34_O (o : (Int) × (List (El uS1))) : Nat × List Lf := (0, [.i o.1, .l uS1 o.2])
def F_reply_Tagged_l34_S (N : Nat) : LS := fun R ls κ => match ls with | [w0, w1, w2] => (Option.bind (getI w0) fun x31 => Option.bind (getI w1) fun x32 => Option.bind (getL uS1 w2) fun x33 => Option.bind (F_reply_Tagged_l34 N N x31 x32 x33) (fun o => κ 0 [.i o.1, .l uS1 o.2])) | _ => none
def F_reply_Tagged_l34_p : PS := ⟨[(.gs 0 1), (.fn 48 [] []), .drop, .drop, .drop, (.int .i64), (.int .i64), .drop, .drop, .drop, .drop, .drop, .drop, .drop, .drop, .drop, .drop, .drop, .drop, .drop, .drop, .drop, .drop, .drop, .drop, .drop, .drop, .drop, .drop, .drop, .drop, .drop, .drop, .drop, .drop, .drop, .drop, .drop, .drop, .drop, .drop, .drop], [.seq uS1 1 0 true]⟩
def F_reply_Tagged_l34_o : List (SX × PS) := [(.exit 0, ⟨[(.gs 0 1), .drop, .drop, .drop, .drop, (.int .i64), .drop, .drop, .drop, .drop, .drop, .drop, .drop, .drop, .drop, .drop, .drop, .drop, .drop, .drop, .drop, .drop, .drop, .drop, .drop, .drop, .drop, .drop, .drop, .drop, .drop, .drop, .drop, .drop, .drop, .drop, .drop, .drop, .drop, .drop, .drop, .drop], [.seq uS1 1 0 true]⟩)]
def F_reply_Tagged (N : Nat) (p0 : (List (El uS1))) : Option ((List (El uS1)) × Unit) :=
  (Option.bind (F_reply_Tagged_l17 N N p0 (((List.length p0) : Nat) : Int) (0 : Int) ([] : List (El uS1))) fun o19 => (Option.bind (F_reply_Tagged_l25 N N (((List.length o19) : Nat) : Int) (0 : Int) o19) fun o28 => (sumCase o28 (fun a29 => (cond (a29.1 == (-1 : Int)) (some (a29.2, ())) (Option.bind (F_reply_Tagged_l34 N N a29.1 (IntKind.wrap .i64 (a29.1 + (1 : Int))) a29.2) fun o35 => (cond ((bnds o35.1 (((List.length o35.2) : Nat) : Int) (List.length o35.2)) && true) (cond ((bnds (0 : Int) o35.1 (List.length (updTo o35.2 (Int.toNat o35.1) (List.take ((Int.toNat (((List.length o35.2) : Nat) : Int)) - (Int.toNat o35.1)) (List.replicate ((Int.toNat (((List.length o35.2) : Nat) : Int)) - (Int.toNat o35.1)) ((0 : Int), ((0 : Int), (([] : List UInt8), ((0 : Int), (([] : List UInt8), ((0 : Int), ((0 : UInt8), ((0 : Int), ((0 : Int), ([] : List UInt8))))))))))))))) && true) (some ((slice (updTo o35.2 (Int.toNat o35.1) (List.take ((Int.toNat (((List.length o35.2) : Nat) : Int)) - (Int.toNat o35.1)) (List.replicate ((Int.toNat (((List.length o35.2) : Nat) : Int)) - (Int.toNat o35.1)) ((0 : Int), ((0 : Int), (([] : List UInt8), ((0 : Int), (([] : List UInt8), ((0 : Int), ((0 : UInt8), ((0 : Int), ((0 : Int), ([] : List UInt8))))))))))))) 0 (0 + ((Int.toNat o35.1) - 0))), ())) none) none)))) (fun b30 => (some (b30, ()))))))
def F_reply_Tagged_ct (N : Nat) : List (FuncId × CF) := [(36, conF [(.sl .u8)] [(.sl .u8)] fun x => F_slices_Clone_byte_byte N x.1), (20, conF [] [.bool] fun _ => some (true, ()))]
theorem F_reply_Tagged_ok (N : Nat) : CtOK Tryz.prog glA (tabC (F_reply_Tagged_ct N)) hkA := ctok hkok rfl ⟨F_slices_Clone_byte_byte_c N, yes_sound rfl, trivial⟩
def F_reply_Tagged_l17_q (N : Nat) : Pl := .auto
theorem F_reply_Tagged_l17_r (N : Nat) {R : Type} (x12 : List (El uS1)) (x13 : Int) (x14 : Int) (x15 : List (El uS1)) (rec_ : List Lf → Option R) (out : Nat → List Lf → Option R) :
    round Tryz.prog glA (tabC (F_reply_Tagged_ct N)) 1500 (F_reply_Tagged_l17_q N) F_reply_Tagged_l17_p F_reply_Tagged_l17_o (roundOf Tryz.f45 [1, 1, 0, 1, 2]) [.l uS1 x12, .i x13, .i x14, .l uS1 x15] rec_ out = F_reply_Tagged_l17_t N x12 x13 x14 x15 (fun x12 x13 x14 x15 => rec_ [.l uS1 x12, .i x13, .i x14, .l uS1 x15]) (fun v0 => out 0 [.l uS1 v0]) := by kernel_rfl
theorem F_reply_Tagged_l17_rel {rd : RD} {O : Type} {OUT : O → Nat × List Lf} (N : Nat) (x12 : List (El uS1)) (x13 : Int) (x14 : Int) (x15 : List (El uS1)) (r1 : (List (El uS1)) → (Int) → (Int) → (List (El uS1)) → Option O) (r2 : (List (El uS1)) → (Int) → (Int) → (List (El uS1)) → Option (List Lf ⊕ (Nat × List Lf))) (p0 : (List (El uS1)) → Option O) (q0 : (List (El uS1)) → Option (List Lf ⊕ (Nat × List Lf))) (hr : ∀ x12 x13 x14 x15, Rel rd OUT (r1 x12 x13 x14 x15) (r2 x12 x13 x14 x15)) (h0 : ∀ v0, Rel rd OUT (p0 v0) (q0 v0)) :
    Rel rd OUT (F_reply_Tagged_l17_t N x12 x13 x14 x15 r1 p0) (F_reply_Tagged_l17_t N x12 x13 x14 x15 r2 q0) := by
  unfold F_reply_Tagged_l17_t
  exact (Rel.cond (Rel.cond (Rel.bind fun y18 => (Rel.cond (hr _ _ _ _) Rel.none)) Rel.none) (h0 _))
theorem F_reply_Tagged_l17_it (N : Nat) : ∀ (m : Nat) (x12 : List (El uS1)) (x13 : Int) (x14 : Int) (x15 : List (El uS1)) (o : (List (El uS1))), F_reply_Tagged_l17 N m x12 x13 x14 x15 = some o → It (round1 Tryz.prog glA (tabC (F_reply_Tagged_ct N)) 1500 (F_reply_Tagged_l17_q N) F_reply_Tagged_l17_p F_reply_Tagged_l17_o (roundOf Tryz.f45 [1, 1, 0, 1, 2])) [.l uS1 x12, .i x13, .i x14, .l uS1 x15] (F_reply_Tagged_l17_O o)
  | 0, _, _, _, _, o, h => by cases h
  | m + 1, x12, x13, x14, x15, o, h => Rel.it2 (F_reply_Tagged_l17_r N (R := List Lf ⊕ (Nat × List Lf)) x12 x13 x14 x15 (fun l => some (.inl l)) (fun k os => some (.inr (k, os)))) (F_reply_Tagged_l17_rel N x12 x13 x14 x15 _ _ _ _ (fun x12 x13 x14 x15 => Rel.rec_ fun o h => F_reply_Tagged_l17_it N m x12 x13 x14 x15 o h) (fun _ => Rel.out rfl)) h
theorem F_reply_Tagged_l17_sp (N : Nat) : LoopSpec (round1 Tryz.prog glA (tabC (F_reply_Tagged_ct N)) 1500 (F_reply_Tagged_l17_q N) F_reply_Tagged_l17_p F_reply_Tagged_l17_o (roundOf Tryz.f45 [1, 1, 0, 1, 2])) (F_reply_Tagged_l17_S N) := by
  intro R ls κ r h
  unfold F_reply_Tagged_l17_S at h
  split at h
  · obtain ⟨x12, e0, g0⟩ := bindS h
    obtain ⟨x13, e1, g1⟩ := bindS g0
    obtain ⟨x14, e2, g2⟩ := bindS g1
    obtain ⟨x15, e3, g3⟩ := bindS g2
    cases getL_s e0
    cases getI_s e1
    cases getI_s e2
    cases getL_s e3
    obtain ⟨o, h1, h2⟩ := bindS g3
    exact ⟨_, _, F_reply_Tagged_l17_it N N _ _ _ _ o h1, h2⟩
  · cases h
theorem F_reply_Tagged_l17_c (N : Nat) : SndC Tryz.prog glA hkA (.loop (roundOf Tryz.f45 [1, 1, 0, 1, 2])) (byLoop [(3, uS1)] F_reply_Tagged_l17_p F_reply_Tagged_l17_o (F_reply_Tagged_l17_S N)) :=
  loop_sound (F_reply_Tagged_ok N) (plok_of (show loopsOf Tryz.prog (F_reply_Tagged_l17_q N) (roundOf Tryz.f45 [1, 1, 0, 1, 2]) = some [] by kernel_rfl) trivial) (F_reply_Tagged_l17_sp N)
def F_reply_Tagged_l25_q (N : Nat) : Pl := .auto
theorem F_reply_Tagged_l25_r (N : Nat) {R : Type} (x22 : Int) (x23 : Int) (x24 : List (El uS1)) (rec_ : List Lf → Option R) (out : Nat → List Lf → Option R) :
    round Tryz.prog glA (tabC (F_reply_Tagged_ct N)) 1500 (F_reply_Tagged_l25_q N) F_reply_Tagged_l25_p F_reply_Tagged_l25_o (roundOf Tryz.f21 [1, 0, 1, 2]) [.i x22, .i x23, .l uS1 x24] rec_ out = F_reply_Tagged_l25_t N x22 x23 x24 (fun x22 x23 x24 => rec_ [.i x22, .i x23, .l uS1 x24]) (fun v0 v1 => out 0 [.i v0, .l uS1 v1]) (fun v0 => out 1 [.l uS1 v0]) := by kernel_rfl
theorem F_reply_Tagged_l25_rel {rd : RD} {O : Type} {OUT : O → Nat × List Lf} (N : Nat) (x22 : Int) (x23 : Int) (x24 : List (El uS1)) (r1 : (Int) → (Int) → (List (El uS1)) → Option O) (r2 : (Int) → (Int) → (List (El uS1)) → Option (List Lf ⊕ (Nat × List Lf))) (p0 : (Int) → (List (El uS1)) → Option O) (q0 : (Int) → (List (El uS1)) → Option (List Lf ⊕ (Nat × List Lf))) (p1 : (List (El uS1)) → Option O) (q1 : (List (El uS1)) → Option (List Lf ⊕ (Nat × List Lf))) (hr : ∀ x22 x23 x24, Rel rd OUT (r1 x22 x23 x24) (r2 x22 x23 x24)) (h0 : ∀ v0 v1, Rel rd OUT (p0 v0 v1) (q0 v0 v1)) (h1 : ∀ v0, Rel rd OUT (p1 v0) (q1 v0)) :
    Rel rd OUT (F_reply_Tagged_l25_t N x22 x23 x24 r1 p0 p1) (F_reply_Tagged_l25_t N x22 x23 x24 r2 q0 q1) := by
  unfold F_reply_Tagged_l25_t
  exact (Rel.cond (Rel.cond (Rel.cond (h0 _ _) (hr _ _ _)) Rel.none) (h1 _))
theorem F_reply_Tagged_l25_it (N : Nat) : ∀ (m : Nat) (x22 : Int) (x23 : Int) (x24 : List (El uS1)) (o : ((Int) × (List (El uS1))) ⊕ ((List (El uS1)))), F_reply_Tagged_l25 N m x22 x23 x24 = some o → It (round1 Tryz.prog glA (tabC (F_reply_Tagged_ct N)) 1500 (F_reply_Tagged_l25_q N) F_reply_Tagged_l25_p F_reply_Tagged_l25_o (roundOf Tryz.f21 [1, 0, 1, 2])) [.i x22, .i x23, .l uS1 x24] (F_reply_Tagged_l25_O o)
  | 0, _, _, _, o, h => by cases h
  | m + 1, x22, x23, x24, o, h => Rel.it2 (F_reply_Tagged_l25_r N (R := List Lf ⊕ (Nat × List Lf)) x22 x23 x24 (fun l => some (.inl l)) (fun k os => some (.inr (k, os)))) (F_reply_Tagged_l25_rel N x22 x23 x24 _ _ _ _ _ _ (fun x22 x23 x24 => Rel.rec_ fun o h => F_reply_Tagged_l25_it N m x22 x23 x24 o h) (fun _ _ => Rel.out rfl) (fun _ => Rel.out rfl)) h
theorem F_reply_Tagged_l25_sp (N : Nat) : LoopSpec (round1 Tryz.prog glA (tabC (F_reply_Tagged_ct N)) 1500 (F_reply_Tagged_l25_q N) F_reply_Tagged_l25_p F_reply_Tagged_l25_o (roundOf Tryz.f21 [1, 0, 1, 2])) (F_reply_Tagged_l25_S N) := by
  intro R ls κ r h
  unfold F_reply_Tagged_l25_S at h
  split at h
  · obtain ⟨x22, e0, g0⟩ := bindS h
    obtain ⟨x23, e1, g1⟩ := bindS g0
    obtain ⟨x24, e2, g2⟩ := bindS g1
    cases getI_s e0
    cases getI_s e1
    cases getL_s e2
    obtain ⟨o, h1, h2⟩ := bindS g2
    rcases o with o | o
    · exact ⟨_, _, F_reply_Tagged_l25_it N N _ _ _ _ h1, h2⟩
    · exact ⟨_, _, F_reply_Tagged_l25_it N N _ _ _ _ h1, h2⟩
  · cases h
theorem F_reply_Tagged_l25_c (N : Nat) : SndC Tryz.prog glA hkA (.loop (roundOf Tryz.f21 [1, 0, 1, 2])) (byLoop [] F_reply_Tagged_l25_p F_reply_Tagged_l25_o (F_reply_Tagged_l25_S N)) :=
  loop_sound (F_reply_Tagged_ok N) (plok_of (show loopsOf Tryz.prog (F_reply_Tagged_l25_q N) (roundOf Tryz.f21 [1, 0, 1, 2]) = some [] by kernel_rfl) trivial) (F_reply_Tagged_l25_sp N)
def F_reply_Tagged_l34_q (N : Nat) : Pl := .auto
theorem F_reply_Tagged_l34_r (N : Nat) {R : Type} (x31 : Int) (x32 : Int) (x33 : List (El uS1)) (rec_ : List Lf → Option R) (out : Nat → List Lf → Option R) :
    round Tryz.prog glA (tabC (F_reply_Tagged_ct N)) 1500 (F_reply_Tagged_l34_q N) F_reply_Tagged_l34_p F_reply_Tagged_l34_o (roundOf Tryz.f47 [1, 1, 1, 0, 1, 2]) [.i x31, .i x32, .l uS1 x33] rec_ out = F_reply_Tagged_l34_t N x31 x32 x33 (fun x31 x32 x33 => rec_ [.i x31, .i x32, .l uS1 x33]) (fun v0 v1 => out 0 [.i v0, .l uS1 v1]) := by kernel_rfl
theorem F_reply_Tagged_l34_rel {rd : RD} {O : Type} {OUT : O → Nat × List Lf} (N : Nat) (x31 : Int) (x32 : Int) (x33 : List (El uS1)) (r1 : (Int) → (Int) → (List (El uS1)) → Option O) (r2 : (Int) → (Int) → (List (El uS1)) → Option (List Lf ⊕ (Nat × List Lf))) (p0 : (Int) → (List (El uS1)) → Option O) (q0 : (Int) → (List (El uS1)) → Option (List Lf ⊕ (Nat × List Lf))) (hr : ∀ x31 x32 x33, Rel rd OUT (r1 x31 x32 x33) (r2 x31 x32 x33)) (h0 : ∀ v0 v1, Rel rd OUT (p0 v0 v1) (q0 v0 v1)) :
    Rel rd OUT (F_reply_Tagged_l34_t N x31 x32 x33 r1 p0) (F_reply_Tagged_l34_t N x31 x32 x33 r2 q0) := by
  unfold F_reply_Tagged_l34_t
  exact (Rel.cond (Rel.cond (Rel.cond (Rel.cond (hr _ _ _) Rel.none) (hr _ _ _)) Rel.none) (h0 _ _))
theorem F_reply_Tagged_l34_it (N : Nat) : ∀ (m : Nat) (x31 : Int) (x32 : Int) (x33 : List (El uS1)) (o : (Int) × (List (El uS1))), F_reply_Tagged_l34 N m x31 x32 x33 = some o → It (round1 Tryz.prog glA (tabC (F_reply_Tagged_ct N)) 1500 (F_reply_Tagged_l34_q N) F_reply_Tagged_l34_p F_reply_Tagged_l34_o (roundOf Tryz.f47 [1, 1, 1, 0, 1, 2])) [.i x31, .i x32, .l uS1 x33] (F_reply_Tagged_l34_O o)
  | 0, _, _, _, o, h => by cases h
  | m + 1, x31, x32, x33, o, h => Rel.it2 (F_reply_Tagged_l34_r N (R := List Lf ⊕ (Nat × List Lf)) x31 x32 x33 (fun l => some (.inl l)) (fun k os => some (.inr (k, os)))) (F_reply_Tagged_l34_rel N x31 x32 x33 _ _ _ _ (fun x31 x32 x33 => Rel.rec_ fun o h => F_reply_Tagged_l34_it N m x31 x32 x33 o h) (fun _ _ => Rel.out rfl)) h
theorem F_reply_Tagged_l34_sp (N : Nat) : LoopSpec (round1 Tryz.prog glA (tabC (F_reply_Tagged_ct N)) 1500 (F_reply_Tagged_l34_q N) F_reply_Tagged_l34_p F_reply_Tagged_l34_o (roundOf Tryz.f47 [1, 1, 1, 0, 1, 2])) (F_reply_Tagged_l34_S N) := by
  intro R ls κ r h
  unfold F_reply_Tagged_l34_S at h
  split at h
  · obtain ⟨x31, e0, g0⟩ := bindS h
    obtain ⟨x32, e1, g1⟩ := bindS g0
    obtain ⟨x33, e2, g2⟩ := bindS g1
    cases getI_s e0
    cases getI_s e1
    cases getL_s e2
    obtain ⟨o, h1, h2⟩ := bindS g2
    exact ⟨_, _, F_reply_Tagged_l34_it N N _ _ _ o h1, h2⟩
  · cases h
theorem F_reply_Tagged_l34_c (N : Nat) : SndC Tryz.prog glA hkA (.loop (roundOf Tryz.f47 [1, 1, 1, 0, 1, 2])) (byLoop [] F_reply_Tagged_l34_p F_reply_Tagged_l34_o (F_reply_Tagged_l34_S N)) :=
  loop_sound (F_reply_Tagged_ok N) (plok_of (show loopsOf Tryz.prog (F_reply_Tagged_l34_q N) (roundOf Tryz.f47 [1, 1, 1, 0, 1, 2]) = some [] by kernel_rfl) trivial) (F_reply_Tagged_l34_sp N)
def F_reply_Tagged_pl (N : Nat) : Pl := (.two .auto (.two (.cal 1 45 (.two .auto (.two .auto (.two (.two .auto (.one (.by_ (byLoop [(3, uS1)] F_reply_Tagged_l17_p F_reply_Tagged_l17_o (F_reply_Tagged_l17_S N))))) .auto))) (.cal 2 47 (.two .auto (.two (.cal 2 21 (.two .auto (.two (.two .auto (.one (.by_ (byLoop [] F_reply_Tagged_l25_p F_reply_Tagged_l25_o (F_reply_Tagged_l25_S N))))) .auto)) .auto) (.two .auto (.two (.two .auto (.one (.by_ (byLoop [] F_reply_Tagged_l34_p F_reply_Tagged_l34_o (F_reply_Tagged_l34_S N))))) .auto)))) .auto)) .auto))
theorem F_reply_Tagged_s (N : Nat) (x : El (tupU [(.sl uS1)])) : scall Tryz.prog glA (tabC (F_reply_Tagged_ct N)) 1500 (F_reply_Tagged_pl N) 26 (argsOf [(.sl uS1)] x) [] (retOf [(.sl uS1)]) = F_reply_Tagged N x.1 := by kernel_rfl
theorem F_reply_Tagged_k (N : Nat) : ∀ fn b, Tryz.prog.funcs[26]? = some fn → fn.body = some b → PlOK Tryz.prog glA hkA (F_reply_Tagged_pl N) b :=
  plok_fn Tryz.func26 (show (match Tryz.f26.body with | some b => loopsOf Tryz.prog (F_reply_Tagged_pl N) b | none => none) = some [((roundOf Tryz.f45 [1, 1, 0, 1, 2]), byLoop [(3, uS1)] F_reply_Tagged_l17_p F_reply_Tagged_l17_o (F_reply_Tagged_l17_S N)), ((roundOf Tryz.f21 [1, 0, 1, 2]), byLoop [] F_reply_Tagged_l25_p F_reply_Tagged_l25_o (F_reply_Tagged_l25_S N)), ((roundOf Tryz.f47 [1, 1, 1, 0, 1, 2]), byLoop [] F_reply_Tagged_l34_p F_reply_Tagged_l34_o (F_reply_Tagged_l34_S N))] by kernel_rfl) ⟨F_reply_Tagged_l17_c N, F_reply_Tagged_l25_c N, F_reply_Tagged_l34_c N, trivial⟩
theorem F_reply_Tagged_c (N : Nat) : SndF Tryz.prog glA hkA 26 (conF [(.sl uS1)] [(.sl uS1)] fun x => F_reply_Tagged N x.1) := con_sound (F_reply_Tagged_ok N) (F_reply_Tagged_k N) (F_reply_Tagged_s N)
-- cubbyhole/cubbyholelaw10.ReplyPicks
def F_law10_ReplyPicks_l13_t (N : Nat) {R : Type} (x9 : List (El uS1)) (x10 : Int) (x11 : Int) (x12 : List UInt8) (rec_ : (List (El uS1)) → (Int) → (Int) → (List UInt8) → Option R) (o0 : (Int) → (List UInt8) → Option R) (o1 : (List UInt8) → Option R) : Option R :=
  (cond (decide (x11 < x10)) (cond (inb x11 (List.length x9)) (cond ((nth uS1 x9 (Int.toNat x11)).1 == (9 : Int)) (cond ((nth uS1 x9 (Int.toNat x11)).2.2.1 == x12) (o0 x11 x12) (rec_ x9 x10 (IntKind.wrap .i64 (x11 + (1 : Int))) x12)) (rec_ x9 x10 (IntKind.wrap .i64 (x11 + (1 : Int))) x12)) none) (o1 x12))
def F_law10_ReplyPicks_l13 (N : Nat) : Nat → (List (El uS1)) → (Int) → (Int) → (List UInt8) → Option (((Int) × (List UInt8)) ⊕ ((List UInt8)))
  | 0, _, _, _, _ => none
  | m + 1, x9, x10, x11, x12 => F_law10_ReplyPicks_l13_t N x9 x10 x11 x12 (F_law10_ReplyPicks_l13 N m) (fun v0 v1 => some (Sum.inl (v0, v1))) (fun v0 => some (Sum.inr v0))
def F_law10_ReplyPicks_l13_O (o : ((Int) × (List UInt8)) ⊕ ((List UInt8))) : Nat × List Lf := sumCase o (fun a => (0, [.i a.1, .s a.2])) (fun b0 => (1, [.s b0]))
def F_law10_ReplyPicks_l13_S (N : Nat) : LS := fun R ls κ => match ls with | [w0, w1, w2, w3] => (Option.bind (getL uS1 w0) fun x9 => Option.bind (getI w1) fun x10 => Option.bind (getI w2) fun x11 => Option.bind (getS w3) fun x12 => Option.bind (F_law10_ReplyPicks_l13 N N x9 x10 x11 x12) (fun o => (sumCase o (fun a14 => κ 0 [.i a14.1, .s a14.2]) (fun b15 => κ 1 [.s b15])))) | _ => none
def F_law10_ReplyPicks_l13_p : PS := ⟨[(.isl uS1), (.fn 22 [] [(.ptr 0 0 1)]), .drop, .drop, .drop, .drop, .drop, (.int .i64), (.int .i64), .drop, .drop, .drop, .drop, .drop, .drop, .drop, .drop, .drop, .drop], [.cells [.str] 0]⟩
def F_law10_ReplyPicks_l13_o : List (SX × PS) := [(.ret, ⟨[.drop, .drop, .drop, .drop, (.int .i64), .drop, .drop, .drop, .drop, .drop, .drop, .drop, .drop, .drop, .drop, .drop, .drop, .drop, .drop], [.cells [.str] 0]⟩), (.exit 0, ⟨[.drop, .drop, .drop, .drop, .drop, .drop, .drop, .drop, .drop, .drop, .drop, .drop, .drop, .drop, .drop, .drop, .drop, .drop, .drop], [.cells [.str] 0]⟩)]
def F_law10_ReplyPicks_l53_t (N : Nat) {R : Type} (x43 : List (El uS1)) (x44 : Int) (x45 : List (El uS1)) (x46 : List (El uS1)) (x47 : Bool) (x48 : Int) (x49 : List (El uS1)) (x50 : Int) (x51 : Int) (x52 : List (El uS1)) (rec_ : (List (El uS1)) → (Int) → (List (El uS1)) → (List (El uS1)) → (Bool) → (Int) → (List (El uS1)) → (Int) → (Int) → (List (El uS1)) → Option R) (o0 : (List (El uS1)) → (Int) → (List (El uS1)) → (List (El uS1)) → (Bool) → (Int) → (List (El uS1)) → Option R) : Option R :=
  (cond (decide (x51 < x50)) (cond (inb x51 (List.length x49)) (cond ((nth uS1 x49 (Int.toNat x51)).1 == (9 : Int)) (cond (Nat.blt ((List.length x52) + 1) lim39) (rec_ x43 x44 x45 x46 x47 (IntKind.wrap .i64 (x48 + (1 : Int))) x49 x50 (IntKind.wrap .i64 (x51 + (1 : Int))) (x52 ++ ([(nth uS1 x49 (Int.toNat x51))] : List (El uS1)))) none) (rec_ x43 x44 x45 x46 x47 x48 x49 x50 (IntKind.wrap .i64 (x51 + (1 : Int))) x52)) none) (o0 x43 x44 x45 x46 x47 x48 x52))
def F_law10_ReplyPicks_l53 (N : Nat) : Nat → (List (El uS1)) → (Int) → (List (El uS1)) → (List (El uS1)) → (Bool) → (Int) → (List (El uS1)) → (Int) → (Int) → (List (El uS1)) → Option ((List (El uS1)) × (Int) × (List (El uS1)) × (List (El uS1)) × (Bool) × (Int) × (List (El uS1)))
  | 0, _, _, _, _, _, _, _, _, _, _ => none
  | m + 1, x43, x44, x45, x46, x47, x48, x49, x50, x51, x52 => F_law10_ReplyPicks_l53_t N x43 x44 x45 x46 x47 x48 x49 x50 x51 x52 (F_law10_ReplyPicks_l53 N m) (fun v0 v1 v2 v3 v4 v5 v6 => some (v0, v1, v2, v3, v4, v5, v6))
def F_law10_ReplyPicks_l53_O (o : (List (El uS1)) × (Int) × (List (El uS1)) × (List (El uS1)) × (Bool) × (Int) × (List (El uS1))) : Nat × List Lf := (0, [.l uS1 o.1, .i o.2.1, .l uS1 o.2.2.1, .l uS1 o.2.2.2.1, .b o.2.2.2.2.1, .i o.2.2.2.2.2.1, .l uS1 o.2.2.2.2.2.2])
def F_law10_ReplyPicks_l53_S (N : Nat) : LS := fun R ls κ => match ls with | [w0, w1, w2, w3, w4, w5, w6, w7, w8, w9] => (Option.bind (getL uS1 w0) fun x43 => Option.bind (getI w1) fun x44 => Option.bind (getL uS1 w2) fun x45 => Option.bind (getL uS1 w3) fun x46 => Option.bind (getB w4) fun x47 => Option.bind (getI w5) fun x48 => Option.bind (getL uS1 w6) fun x49 => Option.bind (getI w7) fun x50 => Option.bind (getI w8) fun x51 => Option.bind (getL uS1 w9) fun x52 => Option.bind (F_law10_ReplyPicks_l53 N N x43 x44 x45 x46 x47 x48 x49 x50 x51 x52) (fun o => κ 0 [.l uS1 o.1, .i o.2.1, .l uS1 o.2.2.1, .l uS1 o.2.2.2.1, .b o.2.2.2.2.1, .i o.2.2.2.2.2.1, .l uS1 o.2.2.2.2.2.2])) | _ => none
def F_law10_ReplyPicks_l53_p : PS := ⟨[(.isl uS1), .drop, .drop, .drop, .drop, (.int .i64), (.isl uS1), (.isl uS1), .bool, (.int .i64), (.gs 1 1), .drop, .drop, .drop, .drop, .drop, .drop, .drop, .drop, .drop, .drop, .drop, .drop, .drop, .drop, .drop, .drop, .drop, .drop, .drop, .drop, .drop, (.isl uS1), (.int .i64), (.int .i64), .drop, .drop, .drop, .drop, .drop, .drop, .drop, .drop, .drop, .drop, .drop, .drop, .drop, .drop, .drop, .drop, .drop, .drop, .drop, .drop, .drop, .drop, .drop, .drop, .drop, .drop, .drop, .drop, .drop, .drop, .drop, .drop, .drop, .drop, .drop, .drop, .drop, .drop, .drop, .drop, .drop, .drop, .drop, .drop, .drop, .drop, .drop, .drop, .drop, .drop, .drop, .drop, .drop, .drop, .drop, .drop, .drop, .drop, .drop], [.gone, .seq uS1 1 0 false]⟩
def F_law10_ReplyPicks_l53_o : List (SX × PS) := [(.exit 0, ⟨[(.isl uS1), .drop, .drop, .drop, .drop, (.int .i64), (.isl uS1), (.isl uS1), .bool, (.int .i64), (.gs 1 1), .drop, .drop, .drop, .drop, .drop, .drop, .drop, .drop, .drop, .drop, .drop, .drop, .drop, .drop, .drop, .drop, .drop, .drop, .drop, .drop, .drop, .drop, .drop, .drop, .drop, .drop, .drop, .drop, .drop, .drop, .drop, .drop, .drop, .drop, .drop, .drop, .drop, .drop, .drop, .drop, .drop, .drop, .drop, .drop, .drop, .drop, .drop, .drop, .drop, .drop, .drop, .drop, .drop, .drop, .drop, .drop, .drop, .drop, .drop, .drop, .drop, .drop, .drop, .drop, .drop, .drop, .drop, .drop, .drop, .drop, .drop, .drop, .drop, .drop, .drop, .drop, .drop, .drop, .drop, .drop, .drop, .drop, .drop], [.gone, .seq uS1 1 0 false]⟩)]
def F_law10_ReplyPicks (N : Nat) (p0 : (List (El uS1))) (p1 : (List UInt8)) : Option (Bool × Unit) :=
  (Option.bind (F_ref09_Few N p0) fun y1 => (cond (!y1.1) (Option.bind (some (true, ())) fun y2 => (some (y2.1, ()))) (cond (decide ((100 : Int) < (((List.length p1) : Nat) : Int))) (Option.bind (some (true, ())) fun y3 => (some (y3.1, ()))) (Option.bind (F_law10_ReplyPicks_l13 N N p0 (((List.length p0) : Nat) : Int) (0 : Int) p1) fun o16 => (sumCase o16 (fun a17 => (Option.bind (F_reply_Until N a17.2 p0) fun y19 => (Option.bind (F_law10_ReplyPicks_l53 N N p0 a17.1 y19.1 y19.2.1 y19.2.2.1 (0 : Int) p0 (((List.length p0) : Nat) : Int) (0 : Int) ([] : List (El uS1))) fun o54 => (Option.bind (F_reply_Count N (9 : Int) o54.1) fun y55 => (cond (y55.1 != o54.2.2.2.2.2.1) (some (false, ())) (Option.bind (F_reply_Tagged N o54.1) fun y56 => (Option.bind (F_ref09_SameList N y56.1 o54.2.2.2.2.2.2) fun y57 => (cond (!y57.1) (some (false, ())) (cond (!(o54.2.2.2.2.1 == (decide ((0 : Int) ≤ o54.2.1)))) (some (false, ())) (cond (decide (o54.2.1 < (0 : Int))) (Option.bind (some (true, ())) fun y58 => (cond y58.1 (Option.bind (F_ref09_SameList N o54.2.2.1 o54.1) fun y59 => (cond y59.1 (some (((((List.length o54.2.2.2.1) : Nat) : Int) == (0 : Int)), ())) (some (false, ())))) (some (false, ())))) (Option.bind (some (true, ())) fun y60 => (cond y60.1 (cond ((bnds (0 : Int) o54.2.1 (List.length o54.1)) && true) (Option.bind (F_ref09_SameList N o54.2.2.1 (slice o54.1 0 (Int.toNat o54.2.1))) fun y61 => (cond y61.1 (cond ((bnds (IntKind.wrap .i64 (o54.2.1 + (1 : Int))) (((List.length o54.1) : Nat) : Int) (List.length o54.1)) && true) (Option.bind (F_ref09_SameList N o54.2.2.2.1 (slice o54.1 (Int.toNat (IntKind.wrap .i64 (o54.2.1 + (1 : Int)))) (Int.toNat (((List.length o54.1) : Nat) : Int)))) fun y62 => (some (y62.1, ()))) none) (some (false, ())))) none) (some (false, ())))))))))))))) (fun b18 => (Option.bind (F_reply_Until N b18 p0) fun y63 => (Option.bind (F_law10_ReplyPicks_l53 N N p0 (-1 : Int) y63.1 y63.2.1 y63.2.2.1 (0 : Int) p0 (((List.length p0) : Nat) : Int) (0 : Int) ([] : List (El uS1))) fun o64 => (Option.bind (F_reply_Count N (9 : Int) o64.1) fun y65 => (cond (y65.1 != o64.2.2.2.2.2.1) (some (false, ())) (Option.bind (F_reply_Tagged N o64.1) fun y66 => (Option.bind (F_ref09_SameList N y66.1 o64.2.2.2.2.2.2) fun y67 => (cond (!y67.1) (some (false, ())) (cond (!(o64.2.2.2.2.1 == (decide ((0 : Int) ≤ o64.2.1)))) (some (false, ())) (cond (decide (o64.2.1 < (0 : Int))) (Option.bind (some (true, ())) fun y68 => (cond y68.1 (Option.bind (F_ref09_SameList N o64.2.2.1 o64.1) fun y69 => (cond y69.1 (some (((((List.length o64.2.2.2.1) : Nat) : Int) == (0 : Int)), ())) (some (false, ())))) (some (false, ())))) (Option.bind (some (true, ())) fun y70 => (cond y70.1 (cond ((bnds (0 : Int) o64.2.1 (List.length o64.1)) && true) (Option.bind (F_ref09_SameList N o64.2.2.1 (slice o64.1 0 (Int.toNat o64.2.1))) fun y71 => (cond y71.1 (cond ((bnds (IntKind.wrap .i64 (o64.2.1 + (1 : Int))) (((List.length o64.1) : Nat) : Int) (List.length o64.1)) && true) (Option.bind (F_ref09_SameList N o64.2.2.2.1 (slice o64.1 (Int.toNat (IntKind.wrap .i64 (o64.2.1 + (1 : Int)))) (Int.toNat (((List.length o64.1) : Nat) : Int)))) fun y72 => (some (y72.1, ()))) none) (some (false, ())))) none) (some (false, ())))))))))))))))))))
def F_law10_ReplyPicks_ct (N : Nat) : List (FuncId × CF) := [(19, conF [(.sl uS1)] [.bool] fun x => F_ref09_Few N x.1), (23, conF [.str, (.sl uS1)] [(.sl uS1), (.sl uS1), .bool] fun x => F_reply_Until N x.1 x.2.1), (24, conF [(.int .i64), (.sl uS1)] [(.int .i64)] fun x => F_reply_Count N x.1 x.2.1), (26, conF [(.sl uS1)] [(.sl uS1)] fun x => F_reply_Tagged N x.1), (25, conF [(.sl uS1), (.sl uS1)] [.bool] fun x => F_ref09_SameList N x.1 x.2.1), (20, conF [] [.bool] fun _ => some (true, ()))]
theorem F_law10_ReplyPicks_ok (N : Nat) : CtOK Tryz.prog glA (tabC (F_law10_ReplyPicks_ct N)) hkA := ctok hkok rfl ⟨F_ref09_Few_c N, F_reply_Until_c N, F_reply_Count_c N, F_reply_Tagged_c N, F_ref09_SameList_c N, yes_sound rfl, trivial⟩
def F_law10_ReplyPicks_l13_q (N : Nat) : Pl := .auto
theorem F_law10_ReplyPicks_l13_r (N : Nat) {R : Type} (x9 : List (El uS1)) (x10 : Int) (x11 : Int) (x12 : List UInt8) (rec_ : List Lf → Option R) (out : Nat → List Lf → Option R) :
    round Tryz.prog glA (tabC (F_law10_ReplyPicks_ct N)) 1500 (F_law10_ReplyPicks_l13_q N) F_law10_ReplyPicks_l13_p F_law10_ReplyPicks_l13_o (roundOf Tryz.f21 [1, 0, 1, 2]) [.l uS1 x9, .i x10, .i x11, .s x12] rec_ out = F_law10_ReplyPicks_l13_t N x9 x10 x11 x12 (fun x9 x10 x11 x12 => rec_ [.l uS1 x9, .i x10, .i x11, .s x12]) (fun v0 v1 => out 0 [.i v0, .s v1]) (fun v0 => out 1 [.s v0]) := by kernel_rfl
theorem F_law10_ReplyPicks_l13_rel {rd : RD} {O : Type} {OUT : O → Nat × List Lf} (N : Nat) (x9 : List (El uS1)) (x10 : Int) (x11 : Int) (x12 : List UInt8) (r1 : (List (El uS1)) → (Int) → (Int) → (List UInt8) → Option O) (r2 : (List (El uS1)) → (Int) → (Int) → (List UInt8) → Option (List Lf ⊕ (Nat × List Lf))) (p0 : (Int) → (List UInt8) → Option O) (q0 : (Int) → (List UInt8) → Option (List Lf ⊕ (Nat × List Lf))) (p1 : (List UInt8) → Option O) (q1 : (List UInt8) → Option (List Lf ⊕ (Nat × List Lf))) (hr : ∀ x9 x10 x11 x12, Rel rd OUT (r1 x9 x10 x11 x12) (r2 x9 x10 x11 x12)) (h0 : ∀ v0 v1, Rel rd OUT (p0 v0 v1) (q0 v0 v1)) (h1 : ∀ v0, Rel rd OUT (p1 v0) (q1 v0)) :
    Rel rd OUT (F_law10_ReplyPicks_l13_t N x9 x10 x11 x12 r1 p0 p1) (F_law10_ReplyPicks_l13_t N x9 x10 x11 x12 r2 q0 q1) := by
  unfold F_law10_ReplyPicks_l13_t
  exact (Rel.cond (Rel.cond (Rel.cond (Rel.cond (h0 _ _) (hr _ _ _ _)) (hr _ _ _ _)) Rel.none) (h1 _))
theorem F_law10_ReplyPicks_l13_it (N : Nat) : ∀ (m : Nat) (x9 : List (El uS1)) (x10 : Int) (x11 : Int) (x12 : List UInt8) (o : ((Int) × (List UInt8)) ⊕ ((List UInt8))), F_law10_ReplyPicks_l13 N m x9 x10 x11 x12 = some o → It (round1 Tryz.prog glA (tabC (F_law10_ReplyPicks_ct N)) 1500 (F_law10_ReplyPicks_l13_q N) F_law10_ReplyPicks_l13_p F_law10_ReplyPicks_l13_o (roundOf Tryz.f21 [1, 0, 1, 2])) [.l uS1 x9, .i x10, .i x11, .s x12] (F_law10_ReplyPicks_l13_O o)
  | 0, _, _, _, _, o, h => by cases h
  | m + 1, x9, x10, x11, x12, o, h => Rel.it2 (F_law10_ReplyPicks_l13_r N (R := List Lf ⊕ (Nat × List Lf)) x9 x10 x11 x12 (fun l => some (.inl l)) (fun k os => some (.inr (k, os)))) (F_law10_ReplyPicks_l13_rel N x9 x10 x11 x12 _ _ _ _ _ _ (fun x9 x10 x11 x12 => Rel.rec_ fun o h => F_law10_ReplyPicks_l13_it N m x9 x10 x11 x12 o h) (fun _ _ => Rel.out rfl) (fun _ => Rel.out rfl)) h
theorem F_law10_ReplyPicks_l13_sp (N : Nat) : LoopSpec (round1 Tryz.prog glA (tabC (F_law10_ReplyPicks_ct N)) 1500 (F_law10_ReplyPicks_l13_q N) F_law10_ReplyPicks_l13_p F_law10_ReplyPicks_l13_o (roundOf Tryz.f21 [1, 0, 1, 2])) (F_law10_ReplyPicks_l13_S N) := by
  intro R ls κ r h
  unfold F_law10_ReplyPicks_l13_S at h
  split at h
  · obtain ⟨x9, e0, g0⟩ := bindS h
    obtain ⟨x10, e1, g1⟩ := bindS g0
    obtain ⟨x11, e2, g2⟩ := bindS g1
    obtain ⟨x12, e3, g3⟩ := bindS g2
    cases getL_s e0
    cases getI_s e1
    cases getI_s e2
    cases getS_s e3
    obtain ⟨o, h1, h2⟩ := bindS g3
    rcases o with o | o
    · exact ⟨_, _, F_law10_ReplyPicks_l13_it N N _ _ _ _ _ h1, h2⟩
    · exact ⟨_, _, F_law10_ReplyPicks_l13_it N N _ _ _ _ _ h1, h2⟩
  · cases h
theorem F_law10_ReplyPicks_l13_c (N : Nat) : SndC Tryz.prog glA hkA (.loop (roundOf Tryz.f21 [1, 0, 1, 2])) (byLoop [] F_law10_ReplyPicks_l13_p F_law10_ReplyPicks_l13_o (F_law10_ReplyPicks_l13_S N)) :=
  loop_sound (F_law10_ReplyPicks_ok N) (plok_of (show loopsOf Tryz.prog (F_law10_ReplyPicks_l13_q N) (roundOf Tryz.f21 [1, 0, 1, 2]) = some [] by kernel_rfl) trivial) (F_law10_ReplyPicks_l13_sp N)
def F_law10_ReplyPicks_l53_q (N : Nat) : Pl := .auto
theorem F_law10_ReplyPicks_l53_r (N : Nat) {R : Type} (x43 : List (El uS1)) (x44 : Int) (x45 : List (El uS1)) (x46 : List (El uS1)) (x47 : Bool) (x48 : Int) (x49 : List (El uS1)) (x50 : Int) (x51 : Int) (x52 : List (El uS1)) (rec_ : List Lf → Option R) (out : Nat → List Lf → Option R) :
    round Tryz.prog glA (tabC (F_law10_ReplyPicks_ct N)) 1500 (F_law10_ReplyPicks_l53_q N) F_law10_ReplyPicks_l53_p F_law10_ReplyPicks_l53_o (roundOf Tryz.f5 [1, 1, 1, 1, 1, 1, 0, 1, 2]) [.l uS1 x43, .i x44, .l uS1 x45, .l uS1 x46, .b x47, .i x48, .l uS1 x49, .i x50, .i x51, .l uS1 x52] rec_ out = F_law10_ReplyPicks_l53_t N x43 x44 x45 x46 x47 x48 x49 x50 x51 x52 (fun x43 x44 x45 x46 x47 x48 x49 x50 x51 x52 => rec_ [.l uS1 x43, .i x44, .l uS1 x45, .l uS1 x46, .b x47, .i x48, .l uS1 x49, .i x50, .i x51, .l uS1 x52]) (fun v0 v1 v2 v3 v4 v5 v6 => out 0 [.l uS1 v0, .i v1, .l uS1 v2, .l uS1 v3, .b v4, .i v5, .l uS1 v6]) := by kernel_rfl
theorem F_law10_ReplyPicks_l53_rel {rd : RD} {O : Type} {OUT : O → Nat × List Lf} (N : Nat) (x43 : List (El uS1)) (x44 : Int) (x45 : List (El uS1)) (x46 : List (El uS1)) (x47 : Bool) (x48 : Int) (x49 : List (El uS1)) (x50 : Int) (x51 : Int) (x52 : List (El uS1)) (r1 : (List (El uS1)) → (Int) → (List (El uS1)) → (List (El uS1)) → (Bool) → (Int) → (List (El uS1)) → (Int) → (Int) → (List (El uS1)) → Option O) (r2 : (List (El uS1)) → (Int) → (List (El uS1)) → (List (El uS1)) → (Bool) → (Int) → (List (El uS1)) → (Int) → (Int) → (List (El uS1)) → Option (List Lf ⊕ (Nat × List Lf))) (p0 : (List (El uS1)) → (Int) → (List (El uS1)) → (List (El uS1)) → (Bool) → (Int) → (List (El uS1)) → Option O) (q0 : (List (El uS1)) → (Int) → (List (El uS1)) → (List (El uS1)) → (Bool) → (Int) → (List (El uS1)) → Option (List Lf ⊕ (Nat × List Lf))) (hr : ∀ x43 x44 x45 x46 x47 x48 x49 x50 x51 x52, Rel rd OUT (r1 x43 x44 x45 x46 x47 x48 x49 x50 x51 x52) (r2 x43 x44 x45 x46 x47 x48 x49 x50 x51 x52)) (h0 : ∀ v0 v1 v2 v3 v4 v5 v6, Rel rd OUT (p0 v0 v1 v2 v3 v4 v5 v6) (q0 v0 v1 v2 v3 v4 v5 v6)) :
    Rel rd OUT (F_law10_ReplyPicks_l53_t N x43 x44 x45 x46 x47 x48 x49 x50 x51 x52 r1 p0) (F_law10_ReplyPicks_l53_t N x43 x44 x45 x46 x47 x48 x49 x50 x51 x52 r2 q0) := by
  unfold F_law10_ReplyPicks_l53_t
  exact (Rel.cond (Rel.cond (Rel.cond (Rel.cond (hr _ _ _ _ _ _ _ _ _ _) Rel.none) (hr _ _ _ _ _ _ _ _ _ _)) Rel.none) (h0 _ _ _ _ _ _ _))
theorem F_law10_ReplyPicks_l53_it (N : Nat) : ∀ (m : Nat) (x43 : List (El uS1)) (x44 : Int) (x45 : List (El uS1)) (x46 : List (El uS1)) (x47 : Bool) (x48 : Int) (x49 : List (El uS1)) (x50 : Int) (x51 : Int) (x52 : List (El uS1)) (o : (List (El uS1)) × (Int) × (List (El uS1)) × (List (El uS1)) × (Bool) × (Int) × (List (El uS1))), F_law10_ReplyPicks_l53 N m x43 x44 x45 x46 x47 x48 x49 x50 x51 x52 = some o → It (round1 Tryz.prog glA (tabC (F_law10_ReplyPicks_ct N)) 1500 (F_law10_ReplyPicks_l53_q N) F_law10_ReplyPicks_l53_p F_law10_ReplyPicks_l53_o (roundOf Tryz.f5 [1, 1, 1, 1, 1, 1, 0, 1, 2])) [.l uS1 x43, .i x44, .l uS1 x45, .l uS1 x46, .b x47, .i x48, .l uS1 x49, .i x50, .i x51, .l uS1 x52] (F_law10_ReplyPicks_l53_O o)
  | 0, _, _, _, _, _, _, _, _, _, _, o, h => by cases h
  | m + 1, x43, x44, x45, x46, x47, x48, x49, x50, x51, x52, o, h => Rel.it2 (F_law10_ReplyPicks_l53_r N (R := List Lf ⊕ (Nat × List Lf)) x43 x44 x45 x46 x47 x48 x49 x50 x51 x52 (fun l => some (.inl l)) (fun k os => some (.inr (k, os)))) (F_law10_ReplyPicks_l53_rel N x43 x44 x45 x46 x47 x48 x49 x50 x51 x52 _ _ _ _ (fun x43 x44 x45 x46 x47 x48 x49 x50 x51 x52 => Rel.rec_ fun o h => F_law10_ReplyPicks_l53_it N m x43 x44 x45 x46 x47 x48 x49 x50 x51 x52 o h) (fun _ _ _ _ _ _ _ => Rel.out rfl)) h
theorem F_law10_ReplyPicks_l53_sp (N : Nat) : LoopSpec (round1 Tryz.prog glA (tabC (F_law10_ReplyPicks_ct N)) 1500 (F_law10_ReplyPicks_l53_q N) F_law10_ReplyPicks_l53_p F_law10_ReplyPicks_l53_o (roundOf Tryz.f5 [1, 1, 1, 1, 1, 1, 0, 1, 2])) (F_law10_ReplyPicks_l53_S N) := by
  intro R ls κ r h
  unfold F_law10_ReplyPicks_l53_S at h
  split at h
  · obtain ⟨x43, e0, g0⟩ := bindS h
    obtain ⟨x44, e1, g1⟩ := bindS g0
    obtain ⟨x45, e2, g2⟩ := bindS g1
    obtain ⟨x46, e3, g3⟩ := bindS g2
    obtain ⟨x47, e4, g4⟩ := bindS g3
    obtain ⟨x48, e5, g5⟩ := bindS g4
    obtain ⟨x49, e6, g6⟩ := bindS g5
    obtain ⟨x50, e7, g7⟩ := bindS g6
    obtain ⟨x51, e8, g8⟩ := bindS g7
    obtain ⟨x52, e9, g9⟩ := bindS g8
    cases getL_s e0
    cases getI_s e1
    cases getL_s e2
    cases getL_s e3
    cases getB_s e4
    cases getI_s e5
    cases getL_s e6
    cases getI_s e7
    cases getI_s e8
    cases getL_s e9
    obtain ⟨o, h1, h2⟩ := bindS g9
    exact ⟨_, _, F_law10_ReplyPicks_l53_it N N _ _ _ _ _ _ _ _ _ _ o h1, h2⟩
  · cases h
theorem F_law10_ReplyPicks_l53_c (N : Nat) : SndC Tryz.prog glA hkA (.loop (roundOf Tryz.f5 [1, 1, 1, 1, 1, 1, 0, 1, 2])) (byLoop [(10, uS1)] F_law10_ReplyPicks_l53_p F_law10_ReplyPicks_l53_o (F_law10_ReplyPicks_l53_S N)) :=
  loop_sound (F_law10_ReplyPicks_ok N) (plok_of (show loopsOf Tryz.prog (F_law10_ReplyPicks_l53_q N) (roundOf Tryz.f5 [1, 1, 1, 1, 1, 1, 0, 1, 2]) = some [] by kernel_rfl) trivial) (F_law10_ReplyPicks_l53_sp N)
def F_law10_ReplyPicks_pl (N : Nat) : Pl := (.two .auto (.two .auto (.two (.cal 2 21 (.two .auto (.two (.two .auto (.one (.by_ (byLoop [] F_law10_ReplyPicks_l13_p F_law10_ReplyPicks_l13_o (F_law10_ReplyPicks_l13_S N))))) .auto)) .auto) (.two .auto (.two .auto (.two .auto (.two (.two .auto (.one (.by_ (byLoop [(10, uS1)] F_law10_ReplyPicks_l53_p F_law10_ReplyPicks_l53_o (F_law10_ReplyPicks_l53_S N))))) .auto)))))))
theorem F_law10_ReplyPicks_s (N : Nat) (x : El (tupU [(.sl uS1), .str])) : scall Tryz.prog glA (tabC (F_law10_ReplyPicks_ct N)) 1500 (F_law10_ReplyPicks_pl N) 5 (argsOf [(.sl uS1), .str] x) [] (retOf [.bool]) = F_law10_ReplyPicks N x.1 x.2.1 := by kernel_rfl
theorem F_law10_ReplyPicks_k (N : Nat) : ∀ fn b, Tryz.prog.funcs[5]? = some fn → fn.body = some b → PlOK Tryz.prog glA hkA (F_law10_ReplyPicks_pl N) b :=
  plok_fn Tryz.func5 (show (match Tryz.f5.body with | some b => loopsOf Tryz.prog (F_law10_ReplyPicks_pl N) b | none => none) = some [((roundOf Tryz.f21 [1, 0, 1, 2]), byLoop [] F_law10_ReplyPicks_l13_p F_law10_ReplyPicks_l13_o (F_law10_ReplyPicks_l13_S N)), ((roundOf Tryz.f5 [1, 1, 1, 1, 1, 1, 0, 1, 2]), byLoop [(10, uS1)] F_law10_ReplyPicks_l53_p F_law10_ReplyPicks_l53_o (F_law10_ReplyPicks_l53_S N))] by kernel_rfl) ⟨F_law10_ReplyPicks_l13_c N, F_law10_ReplyPicks_l53_c N, trivial⟩
theorem F_law10_ReplyPicks_c (N : Nat) : SndF Tryz.prog glA hkA 5 (conF [(.sl uS1), .str] [.bool] fun x => F_law10_ReplyPicks N x.1 x.2.1) := con_sound (F_law10_ReplyPicks_ok N) (F_law10_ReplyPicks_k N) (F_law10_ReplyPicks_s N)
end Go.Proofs.YtnoodkgfjdajgaaGreatDoor
