/- The functions of the law: their models, and that the program does what they say. -/
import Derived.Test.YtnoodkgfjdajgaaGreatDoorAoHp
set_option linter.unusedVariables false
set_option linter.unusedSimpArgs false
set_option maxRecDepth 100000
namespace Go.Proofs.YtnoodkgfjdajgaaGreatDoor
open Go Go.Gx Go.Mx Go.Sx
def hkA : Hooks := addHook (mext tab) 27 yesG
theorem hkok : HkOK Tryz.prog hkA [27] := hkok_add (hkok_ext (by kernel_rfl)) 27 yesG
-- cubbyhole/audit.Orders
def F_audit_Orders_l19_t (N : Nat) {R : Type} (x14 : List Int) (x15 : List Int) (x16 : Int) (x17 : Int) (x18 : List (Int × Int)) (rec_ : (List Int) → (List Int) → (Int) → (Int) → (List (Int × Int)) → Option R) (o0 : (List Int) → (List (Int × Int)) → Option R) : Option R :=
  (cond (decide (x17 < x16)) (cond (inb x17 (List.length x15)) (rec_ x14 x15 x16 (IntKind.wrap .i64 (x17 + (1 : Int))) (kvPut (.int .i64) (.int .i64) x18 (nth (.int .i64) x15 (Int.toNat x17)) (IntKind.wrap .i64 ((Option.getD (kvFind (.int .i64) (.int .i64) x18 (nth (.int .i64) x15 (Int.toNat x17))) (0 : Int)) + (1 : Int))))) none) (o0 x14 x18))
def F_audit_Orders_l19 (N : Nat) : Nat → (List Int) → (List Int) → (Int) → (Int) → (List (Int × Int)) → Option ((List Int) × (List (Int × Int)))
  | 0, _, _, _, _, _ => none
  | m + 1, x14, x15, x16, x17, x18 => F_audit_Orders_l19_t N x14 x15 x16 x17 x18 (F_audit_Orders_l19 N m) (fun v0 v1 => some (v0, v1))
def F_audit_Orders_l19_O (o : (List Int) × (List (Int × Int))) : Nat × List Lf := (0, [.l (.int .i64) o.1, .l (.pair (.int .i64) (.int .i64)) o.2])
def F_audit_Orders_l19_S (N : Nat) : LS := fun R ls κ => match ls with | [w0, w1, w2, w3, w4] => (Option.bind (getL (.int .i64) w0) fun x14 => Option.bind (getL (.int .i64) w1) fun x15 => Option.bind (getI w2) fun x16 => Option.bind (getI w3) fun x17 => Option.bind (getL (.pair (.int .i64) (.int .i64)) w4) fun x18 => Option.bind (F_audit_Orders_l19 N N x14 x15 x16 x17 x18) (fun o => κ 0 [.l (.int .i64) o.1, .l (.pair (.int .i64) (.int .i64)) o.2])) | _ => none
def F_audit_Orders_l19_p : PS := ⟨[.drop, (.isl (.int .i64)), .drop, .drop, .drop, (.map 0), .drop, .drop, .drop, .drop, .drop, (.isl (.int .i64)), (.int .i64), (.int .i64), .drop, .drop, .drop, .drop, .drop, .drop, .drop, .drop, .drop, .drop, .drop, .drop, .drop, .drop, .drop, .drop, .drop, .drop, .drop, .drop, .drop, .drop, .drop, .drop, .drop, .drop], [.kv (.int .i64) (.int .i64) 0]⟩
def F_audit_Orders_l19_o : List (SX × PS) := [(.exit 0, ⟨[.drop, (.isl (.int .i64)), .drop, .drop, .drop, (.map 0), .drop, .drop, .drop, .drop, .drop, .drop, .drop, .drop, .drop, .drop, .drop, .drop, .drop, .drop, .drop, .drop, .drop, .drop, .drop, .drop, .drop, .drop, .drop, .drop, .drop, .drop, .drop, .drop, .drop, .drop, .drop, .drop, .drop, .drop], [.kv (.int .i64) (.int .i64) 0]⟩)]
def F_audit_Orders_l30_t (N : Nat) {R : Type} (x26 : List Int) (x27 : Int) (x28 : Int) (x29 : List (Int × Int)) (rec_ : (List Int) → (Int) → (Int) → (List (Int × Int)) → Option R) (o0 : (List (Int × Int)) → Option R) (o1 : (List (Int × Int)) → Option R) : Option R :=
  (cond (decide (x28 < x27)) (cond (inb x28 (List.length x26)) (cond ((Option.getD (kvFind (.int .i64) (.int .i64) x29 x28) (0 : Int)) != (nth (.int .i64) x26 (Int.toNat x28))) (o0 x29) (rec_ x26 x27 (IntKind.wrap .i64 (x28 + (1 : Int))) (kvDel (.int .i64) (.int .i64) x29 x28))) none) (o1 x29))
def F_audit_Orders_l30 (N : Nat) : Nat → (List Int) → (Int) → (Int) → (List (Int × Int)) → Option (((List (Int × Int))) ⊕ ((List (Int × Int))))
  | 0, _, _, _, _ => none
  | m + 1, x26, x27, x28, x29 => F_audit_Orders_l30_t N x26 x27 x28 x29 (F_audit_Orders_l30 N m) (fun v0 => some (Sum.inl v0)) (fun v0 => some (Sum.inr v0))
def F_audit_Orders_l30_O (o : ((List (Int × Int))) ⊕ ((List (Int × Int)))) : Nat × List Lf := sumCase o (fun a => (0, [.l (.pair (.int .i64) (.int .i64)) a])) (fun b0 => (1, [.l (.pair (.int .i64) (.int .i64)) b0]))
def F_audit_Orders_l30_S (N : Nat) : LS := fun R ls κ => match ls with | [w0, w1, w2, w3] => (Option.bind (getL (.int .i64) w0) fun x26 => Option.bind (getI w1) fun x27 => Option.bind (getI w2) fun x28 => Option.bind (getL (.pair (.int .i64) (.int .i64)) w3) fun x29 => Option.bind (F_audit_Orders_l30 N N x26 x27 x28 x29) (fun o => (sumCase o (fun a31 => κ 0 [.l (.pair (.int .i64) (.int .i64)) a31]) (fun b32 => κ 1 [.l (.pair (.int .i64) (.int .i64)) b32])))) | _ => none
def F_audit_Orders_l30_p : PS := ⟨[.drop, .drop, .drop, .drop, .drop, (.map 0), .drop, .drop, .drop, .drop, .drop, .drop, .drop, .drop, .drop, .drop, .drop, .drop, .drop, .drop, .drop, .drop, (.isl (.int .i64)), (.int .i64), (.int .i64), .drop, .drop, .drop, .drop, .drop, .drop, .drop, .drop, .drop, .drop, .drop, .drop, .drop, .drop, .drop], [.kv (.int .i64) (.int .i64) 0]⟩
def F_audit_Orders_l30_o : List (SX × PS) := [(.ret, ⟨[.drop, .drop, .drop, .drop, (.cst (.bool false)), .drop, .drop, .drop, .drop, .drop, .drop, .drop, .drop, .drop, .drop, .drop, .drop, .drop, .drop, .drop, .drop, .drop, .drop, .drop, .drop, .drop, .drop, .drop, .drop, .drop, .drop, .drop, .drop, .drop, .drop, .drop, .drop, .drop, .drop, .drop], [.kv (.int .i64) (.int .i64) 0]⟩), (.exit 2, ⟨[.drop, .drop, .drop, .drop, .drop, (.map 0), .drop, .drop, .drop, .drop, .drop, .drop, .drop, .drop, .drop, .drop, .drop, .drop, .drop, .drop, .drop, .drop, .drop, .drop, .drop, .drop, .drop, .drop, .drop, .drop, .drop, .drop, .drop, .drop, .drop, .drop, .drop, .drop, .drop, .drop], [.kv (.int .i64) (.int .i64) 0]⟩)]
def F_audit_Orders (N : Nat) (p0 : (List Int)) (p1 : (List Int)) : Option (Bool × Unit) :=
  (Option.bind (F_audit_Orders_l19 N N p1 p0 (((List.length p0) : Nat) : Int) (0 : Int) ([] : List (Int × Int))) fun o20 => (Option.bind (F_audit_Orders_l30 N N o20.1 (((List.length o20.1) : Nat) : Int) (0 : Int) o20.2) fun o33 => (sumCase o33 (fun a34 => (some (false, ()))) (fun b35 => (some (((((List.length b35) : Nat) : Int) == (0 : Int)), ()))))))
def F_audit_Orders_ct (N : Nat) : List (FuncId × CF) := [(27, conF [] [.bool] fun _ => some (true, ()))]
theorem F_audit_Orders_ok (N : Nat) : CtOK Tryz.prog glA (tabC (F_audit_Orders_ct N)) hkA := ctok hkok rfl ⟨yes_sound rfl, trivial⟩
def F_audit_Orders_l19_q (N : Nat) : Pl := .auto
theorem F_audit_Orders_l19_r (N : Nat) {R : Type} (x14 : List Int) (x15 : List Int) (x16 : Int) (x17 : Int) (x18 : List (Int × Int)) (rec_ : List Lf → Option R) (out : Nat → List Lf → Option R) :
    round Tryz.prog glA (tabC (F_audit_Orders_ct N)) 1500 (F_audit_Orders_l19_q N) F_audit_Orders_l19_p F_audit_Orders_l19_o (roundOf Tryz.f30 [1, 1, 0, 1, 2]) [.l (.int .i64) x14, .l (.int .i64) x15, .i x16, .i x17, .l (.pair (.int .i64) (.int .i64)) x18] rec_ out = F_audit_Orders_l19_t N x14 x15 x16 x17 x18 (fun x14 x15 x16 x17 x18 => rec_ [.l (.int .i64) x14, .l (.int .i64) x15, .i x16, .i x17, .l (.pair (.int .i64) (.int .i64)) x18]) (fun v0 v1 => out 0 [.l (.int .i64) v0, .l (.pair (.int .i64) (.int .i64)) v1]) := by kernel_rfl
theorem F_audit_Orders_l19_rel {rd : RD} {O : Type} {OUT : O → Nat × List Lf} (N : Nat) (x14 : List Int) (x15 : List Int) (x16 : Int) (x17 : Int) (x18 : List (Int × Int)) (r1 : (List Int) → (List Int) → (Int) → (Int) → (List (Int × Int)) → Option O) (r2 : (List Int) → (List Int) → (Int) → (Int) → (List (Int × Int)) → Option (List Lf ⊕ (Nat × List Lf))) (p0 : (List Int) → (List (Int × Int)) → Option O) (q0 : (List Int) → (List (Int × Int)) → Option (List Lf ⊕ (Nat × List Lf))) (hr : ∀ x14 x15 x16 x17 x18, Rel rd OUT (r1 x14 x15 x16 x17 x18) (r2 x14 x15 x16 x17 x18)) (h0 : ∀ v0 v1, Rel rd OUT (p0 v0 v1) (q0 v0 v1)) :
    Rel rd OUT (F_audit_Orders_l19_t N x14 x15 x16 x17 x18 r1 p0) (F_audit_Orders_l19_t N x14 x15 x16 x17 x18 r2 q0) := by
  unfold F_audit_Orders_l19_t
  exact (Rel.cond (Rel.cond (hr _ _ _ _ _) Rel.none) (h0 _ _))
theorem F_audit_Orders_l19_it (N : Nat) : ∀ (m : Nat) (x14 : List Int) (x15 : List Int) (x16 : Int) (x17 : Int) (x18 : List (Int × Int)) (o : (List Int) × (List (Int × Int))), F_audit_Orders_l19 N m x14 x15 x16 x17 x18 = some o → It (round1 Tryz.prog glA (tabC (F_audit_Orders_ct N)) 1500 (F_audit_Orders_l19_q N) F_audit_Orders_l19_p F_audit_Orders_l19_o (roundOf Tryz.f30 [1, 1, 0, 1, 2])) [.l (.int .i64) x14, .l (.int .i64) x15, .i x16, .i x17, .l (.pair (.int .i64) (.int .i64)) x18] (F_audit_Orders_l19_O o)
  | 0, _, _, _, _, _, o, h => by cases h
  | m + 1, x14, x15, x16, x17, x18, o, h => Rel.it2 (F_audit_Orders_l19_r N (R := List Lf ⊕ (Nat × List Lf)) x14 x15 x16 x17 x18 (fun l => some (.inl l)) (fun k os => some (.inr (k, os)))) (F_audit_Orders_l19_rel N x14 x15 x16 x17 x18 _ _ _ _ (fun x14 x15 x16 x17 x18 => Rel.rec_ fun o h => F_audit_Orders_l19_it N m x14 x15 x16 x17 x18 o h) (fun _ _ => Rel.out rfl)) h
theorem F_audit_Orders_l19_sp (N : Nat) : LoopSpec (round1 Tryz.prog glA (tabC (F_audit_Orders_ct N)) 1500 (F_audit_Orders_l19_q N) F_audit_Orders_l19_p F_audit_Orders_l19_o (roundOf Tryz.f30 [1, 1, 0, 1, 2])) (F_audit_Orders_l19_S N) := by
  intro R ls κ r h
  unfold F_audit_Orders_l19_S at h
  split at h
  · obtain ⟨x14, e0, g0⟩ := bindS h
    obtain ⟨x15, e1, g1⟩ := bindS g0
    obtain ⟨x16, e2, g2⟩ := bindS g1
    obtain ⟨x17, e3, g3⟩ := bindS g2
    obtain ⟨x18, e4, g4⟩ := bindS g3
    cases getL_s e0
    cases getL_s e1
    cases getI_s e2
    cases getI_s e3
    cases getL_s e4
    obtain ⟨o, h1, h2⟩ := bindS g4
    exact ⟨_, _, F_audit_Orders_l19_it N N _ _ _ _ _ o h1, h2⟩
  · cases h
theorem F_audit_Orders_l19_c (N : Nat) : SndC Tryz.prog glA hkA (.loop (roundOf Tryz.f30 [1, 1, 0, 1, 2])) (byLoop [] F_audit_Orders_l19_p F_audit_Orders_l19_o (F_audit_Orders_l19_S N)) :=
  loop_sound (F_audit_Orders_ok N) (plok_of (show loopsOf Tryz.prog (F_audit_Orders_l19_q N) (roundOf Tryz.f30 [1, 1, 0, 1, 2]) = some [] by kernel_rfl) trivial) (F_audit_Orders_l19_sp N)
def F_audit_Orders_l30_q (N : Nat) : Pl := .auto
theorem F_audit_Orders_l30_r (N : Nat) {R : Type} (x26 : List Int) (x27 : Int) (x28 : Int) (x29 : List (Int × Int)) (rec_ : List Lf → Option R) (out : Nat → List Lf → Option R) :
    round Tryz.prog glA (tabC (F_audit_Orders_ct N)) 1500 (F_audit_Orders_l30_q N) F_audit_Orders_l30_p F_audit_Orders_l30_o (roundOf Tryz.f30 [1, 1, 1, 0, 1, 2]) [.l (.int .i64) x26, .i x27, .i x28, .l (.pair (.int .i64) (.int .i64)) x29] rec_ out = F_audit_Orders_l30_t N x26 x27 x28 x29 (fun x26 x27 x28 x29 => rec_ [.l (.int .i64) x26, .i x27, .i x28, .l (.pair (.int .i64) (.int .i64)) x29]) (fun v0 => out 0 [.l (.pair (.int .i64) (.int .i64)) v0]) (fun v0 => out 1 [.l (.pair (.int .i64) (.int .i64)) v0]) := by kernel_rfl
theorem F_audit_Orders_l30_rel {rd : RD} {O : Type} {OUT : O → Nat × List Lf} (N : Nat) (x26 : List Int) (x27 : Int) (x28 : Int) (x29 : List (Int × Int)) (r1 : (List Int) → (Int) → (Int) → (List (Int × Int)) → Option O) (r2 : (List Int) → (Int) → (Int) → (List (Int × Int)) → Option (List Lf ⊕ (Nat × List Lf))) (p0 : (List (Int × Int)) → Option O) (q0 : (List (Int × Int)) → Option (List Lf ⊕ (Nat × List Lf))) (p1 : (List (Int × Int)) → Option O) (q1 : (List (Int × Int)) → Option (List Lf ⊕ (Nat × List Lf))) (hr : ∀ x26 x27 x28 x29, Rel rd OUT (r1 x26 x27 x28 x29) (r2 x26 x27 x28 x29)) (h0 : ∀ v0, Rel rd OUT (p0 v0) (q0 v0)) (h1 : ∀ v0, Rel rd OUT (p1 v0) (q1 v0)) :
    Rel rd OUT (F_audit_Orders_l30_t N x26 x27 x28 x29 r1 p0 p1) (F_audit_Orders_l30_t N x26 x27 x28 x29 r2 q0 q1) := by
  unfold F_audit_Orders_l30_t
  exact (Rel.cond (Rel.cond (Rel.cond (h0 _) (hr _ _ _ _)) Rel.none) (h1 _))
theorem F_audit_Orders_l30_it (N : Nat) : ∀ (m : Nat) (x26 : List Int) (x27 : Int) (x28 : Int) (x29 : List (Int × Int)) (o : ((List (Int × Int))) ⊕ ((List (Int × Int)))), F_audit_Orders_l30 N m x26 x27 x28 x29 = some o → It (round1 Tryz.prog glA (tabC (F_audit_Orders_ct N)) 1500 (F_audit_Orders_l30_q N) F_audit_Orders_l30_p F_audit_Orders_l30_o (roundOf Tryz.f30 [1, 1, 1, 0, 1, 2])) [.l (.int .i64) x26, .i x27, .i x28, .l (.pair (.int .i64) (.int .i64)) x29] (F_audit_Orders_l30_O o)
  | 0, _, _, _, _, o, h => by cases h
  | m + 1, x26, x27, x28, x29, o, h => Rel.it2 (F_audit_Orders_l30_r N (R := List Lf ⊕ (Nat × List Lf)) x26 x27 x28 x29 (fun l => some (.inl l)) (fun k os => some (.inr (k, os)))) (F_audit_Orders_l30_rel N x26 x27 x28 x29 _ _ _ _ _ _ (fun x26 x27 x28 x29 => Rel.rec_ fun o h => F_audit_Orders_l30_it N m x26 x27 x28 x29 o h) (fun _ => Rel.out rfl) (fun _ => Rel.out rfl)) h
theorem F_audit_Orders_l30_sp (N : Nat) : LoopSpec (round1 Tryz.prog glA (tabC (F_audit_Orders_ct N)) 1500 (F_audit_Orders_l30_q N) F_audit_Orders_l30_p F_audit_Orders_l30_o (roundOf Tryz.f30 [1, 1, 1, 0, 1, 2])) (F_audit_Orders_l30_S N) := by
  intro R ls κ r h
  unfold F_audit_Orders_l30_S at h
  split at h
  · obtain ⟨x26, e0, g0⟩ := bindS h
    obtain ⟨x27, e1, g1⟩ := bindS g0
    obtain ⟨x28, e2, g2⟩ := bindS g1
    obtain ⟨x29, e3, g3⟩ := bindS g2
    cases getL_s e0
    cases getI_s e1
    cases getI_s e2
    cases getL_s e3
    obtain ⟨o, h1, h2⟩ := bindS g3
    rcases o with o | o
    · exact ⟨_, _, F_audit_Orders_l30_it N N _ _ _ _ _ h1, h2⟩
    · exact ⟨_, _, F_audit_Orders_l30_it N N _ _ _ _ _ h1, h2⟩
  · cases h
theorem F_audit_Orders_l30_c (N : Nat) : SndC Tryz.prog glA hkA (.loop (roundOf Tryz.f30 [1, 1, 1, 0, 1, 2])) (byLoop [] F_audit_Orders_l30_p F_audit_Orders_l30_o (F_audit_Orders_l30_S N)) :=
  loop_sound (F_audit_Orders_ok N) (plok_of (show loopsOf Tryz.prog (F_audit_Orders_l30_q N) (roundOf Tryz.f30 [1, 1, 1, 0, 1, 2]) = some [] by kernel_rfl) trivial) (F_audit_Orders_l30_sp N)
def F_audit_Orders_pl (N : Nat) : Pl := (.two .auto (.two .auto (.two (.two .auto (.one (.by_ (byLoop [] F_audit_Orders_l19_p F_audit_Orders_l19_o (F_audit_Orders_l19_S N))))) (.two (.two .auto (.one (.by_ (byLoop [] F_audit_Orders_l30_p F_audit_Orders_l30_o (F_audit_Orders_l30_S N))))) .auto))))
theorem F_audit_Orders_s (N : Nat) (x : El (tupU [(.sl (.int .i64)), (.sl (.int .i64))])) : scall Tryz.prog glA (tabC (F_audit_Orders_ct N)) 1500 (F_audit_Orders_pl N) 30 (argsOf [(.sl (.int .i64)), (.sl (.int .i64))] x) [] (retOf [.bool]) = F_audit_Orders N x.1 x.2.1 := by kernel_rfl
theorem F_audit_Orders_k (N : Nat) : ∀ fn b, Tryz.prog.funcs[30]? = some fn → fn.body = some b → PlOK Tryz.prog glA hkA (F_audit_Orders_pl N) b :=
  plok_fn Tryz.func30 (show (match Tryz.f30.body with | some b => loopsOf Tryz.prog (F_audit_Orders_pl N) b | none => none) = some [((roundOf Tryz.f30 [1, 1, 0, 1, 2]), byLoop [] F_audit_Orders_l19_p F_audit_Orders_l19_o (F_audit_Orders_l19_S N)), ((roundOf Tryz.f30 [1, 1, 1, 0, 1, 2]), byLoop [] F_audit_Orders_l30_p F_audit_Orders_l30_o (F_audit_Orders_l30_S N))] by kernel_rfl) ⟨F_audit_Orders_l19_c N, F_audit_Orders_l30_c N, trivial⟩
theorem F_audit_Orders_c (N : Nat) : SndF Tryz.prog glA hkA 30 (conF [(.sl (.int .i64)), (.sl (.int .i64))] [.bool] fun x => F_audit_Orders N x.1 x.2.1) := con_sound (F_audit_Orders_ok N) (F_audit_Orders_k N) (F_audit_Orders_s N)
-- cubbyhole/cubbyholeref25.Orders
def F_ref25_Orders_l6_t (N : Nat) {R : Type} (x3 : List Int) (x4 : List Int) (x5 : Int) (rec_ : (List Int) → (List Int) → (Int) → Option R) (o0 : Unit → Option R) (o1 : (List Int) → (List Int) → Option R) : Option R :=
  (cond (decide (x5 < (((List.length x3) : Nat) : Int))) (cond (inb x5 (List.length x3)) (cond (decide ((nth (.int .i64) x3 (Int.toNat x5)) < (0 : Int))) (o0 ()) (cond (inb x5 (List.length x3)) (cond (decide ((((List.length x4) : Nat) : Int) ≤ (nth (.int .i64) x3 (Int.toNat x5)))) (o0 ()) (rec_ x3 x4 (IntKind.wrap .i64 (x5 + (1 : Int))))) none)) none) (o1 x3 x4))
def F_ref25_Orders_l6 (N : Nat) : Nat → (List Int) → (List Int) → (Int) → Option ((Unit) ⊕ ((List Int) × (List Int)))
  | 0, _, _, _ => none
  | m + 1, x3, x4, x5 => F_ref25_Orders_l6_t N x3 x4 x5 (F_ref25_Orders_l6 N m) (fun _ => some (Sum.inl ())) (fun v0 v1 => some (Sum.inr (v0, v1)))
def F_ref25_Orders_l6_O (o : (Unit) ⊕ ((List Int) × (List Int))) : Nat × List Lf := sumCase o (fun a => (0, [])) (fun b0 => (1, [.l (.int .i64) b0.1, .l (.int .i64) b0.2]))
def F_ref25_Orders_l6_S (N : Nat) : LS := fun R ls κ => match ls with | [w0, w1, w2] => (Option.bind (getL (.int .i64) w0) fun x3 => Option.bind (getL (.int .i64) w1) fun x4 => Option.bind (getI w2) fun x5 => Option.bind (F_ref25_Orders_l6 N N x3 x4 x5) (fun o => (sumCase o (fun a7 => κ 0 []) (fun b8 => κ 1 [.l (.int .i64) b8.1, .l (.int .i64) b8.2])))) | _ => none
def F_ref25_Orders_l6_p : PS := ⟨[(.isl (.int .i64)), (.isl (.int .i64)), .drop, .drop, .drop, (.int .i64), .drop, .drop, .drop, .drop, .drop, .drop, .drop, .drop, .drop, .drop, .drop, .drop, .drop, .drop, .drop, .drop, .drop, .drop, .drop, .drop, .drop, .drop, .drop, .drop, .drop, .drop, .drop, .drop, .drop, .drop, .drop, .drop, .drop, .drop, .drop, .drop, .drop, .drop, .drop, .drop, .drop, .drop, .drop, .drop, .drop, .drop, .drop, .drop, .drop], []⟩
def F_ref25_Orders_l6_o : List (SX × PS) := [(.ret, ⟨[.drop, .drop, .drop, .drop, (.cst (.bool false)), .drop, .drop, .drop, .drop, .drop, .drop, .drop, .drop, .drop, .drop, .drop, .drop, .drop, .drop, .drop, .drop, .drop, .drop, .drop, .drop, .drop, .drop, .drop, .drop, .drop, .drop, .drop, .drop, .drop, .drop, .drop, .drop, .drop, .drop, .drop, .drop, .drop, .drop, .drop, .drop, .drop, .drop, .drop, .drop, .drop, .drop, .drop, .drop, .drop, .drop], []⟩), (.exit 0, ⟨[(.isl (.int .i64)), (.isl (.int .i64)), .drop, .drop, .drop, .drop, .drop, .drop, .drop, .drop, .drop, .drop, .drop, .drop, .drop, .drop, .drop, .drop, .drop, .drop, .drop, .drop, .drop, .drop, .drop, .drop, .drop, .drop, .drop, .drop, .drop, .drop, .drop, .drop, .drop, .drop, .drop, .drop, .drop, .drop, .drop, .drop, .drop, .drop, .drop, .drop, .drop, .drop, .drop, .drop, .drop, .drop, .drop, .drop, .drop], []⟩)]
def F_ref25_Orders_l44_t (N : Nat) {R : Type} (x39 : List Int) (x40 : List Int) (x41 : Int) (x42 : Int) (x43 : Int) (rec_ : (List Int) → (List Int) → (Int) → (Int) → (Int) → Option R) (o0 : (List Int) → (List Int) → (Int) → (Int) → Option R) : Option R :=
  (cond (decide (x43 < (((List.length x39) : Nat) : Int))) (cond (inb x43 (List.length x39)) (cond ((nth (.int .i64) x39 (Int.toNat x43)) == x41) (rec_ x39 x40 x41 (IntKind.wrap .i64 (x42 + (1 : Int))) (IntKind.wrap .i64 (x43 + (1 : Int)))) (rec_ x39 x40 x41 x42 (IntKind.wrap .i64 (x43 + (1 : Int))))) none) (o0 x39 x40 x41 x42))
def F_ref25_Orders_l44 (N : Nat) : Nat → (List Int) → (List Int) → (Int) → (Int) → (Int) → Option ((List Int) × (List Int) × (Int) × (Int))
  | 0, _, _, _, _, _ => none
  | m + 1, x39, x40, x41, x42, x43 => F_ref25_Orders_l44_t N x39 x40 x41 x42 x43 (F_ref25_Orders_l44 N m) (fun v0 v1 v2 v3 => some (v0, v1, v2, v3))
def F_ref25_Orders_l44_O (o : (List Int) × (List Int) × (Int) × (Int)) : Nat × List Lf := (0, [.l (.int .i64) o.1, .l (.int .i64) o.2.1, .i o.2.2.1, .i o.2.2.2])
def F_ref25_Orders_l44_S (N : Nat) : LS := fun R ls κ => match ls with | [w0, w1, w2, w3, w4] => (Option.bind (getL (.int .i64) w0) fun x39 => Option.bind (getL (.int .i64) w1) fun x40 => Option.bind (getI w2) fun x41 => Option.bind (getI w3) fun x42 => Option.bind (getI w4) fun x43 => Option.bind (F_ref25_Orders_l44 N N x39 x40 x41 x42 x43) (fun o => κ 0 [.l (.int .i64) o.1, .l (.int .i64) o.2.1, .i o.2.2.1, .i o.2.2.2])) | _ => none
def F_ref25_Orders_l44_p : PS := ⟨[(.isl (.int .i64)), (.isl (.int .i64)), .drop, .drop, .drop, .drop, (.int .i64), (.int .i64), (.int .i64), .drop, .drop, .drop, .drop, .drop, .drop, .drop, .drop, .drop, .drop, .drop, .drop, .drop, .drop, .drop, .drop, .drop, .drop, .drop, .drop, .drop, .drop, .drop, .drop, .drop, .drop, .drop, .drop, .drop, .drop, .drop, .drop, .drop, .drop, .drop, .drop, .drop, .drop, .drop, .drop, .drop, .drop, .drop, .drop, .drop, .drop], []⟩
def F_ref25_Orders_l44_o : List (SX × PS) := [(.exit 4, ⟨[(.isl (.int .i64)), (.isl (.int .i64)), .drop, .drop, .drop, .drop, (.int .i64), (.int .i64), .drop, .drop, .drop, .drop, .drop, .drop, .drop, .drop, .drop, .drop, .drop, .drop, .drop, .drop, .drop, .drop, .drop, .drop, .drop, .drop, .drop, .drop, .drop, .drop, .drop, .drop, .drop, .drop, .drop, .drop, .drop, .drop, .drop, .drop, .drop, .drop, .drop, .drop, .drop, .drop, .drop, .drop, .drop, .drop, .drop, .drop, .drop], []⟩)]
def F_ref25_Orders_l35_t (N : Nat) {R : Type} (x22 : List Int) (x23 : List Int) (x24 : Int) (rec_ : (List Int) → (List Int) → (Int) → Option R) (o0 : Unit → Option R) (o1 : Unit → Option R) : Option R :=
  (cond (decide (x24 < (((List.length x23) : Nat) : Int))) (Option.bind (F_ref25_Orders_l44 N N x22 x23 x24 (0 : Int) (0 : Int)) fun o45 => (cond (inb o45.2.2.1 (List.length o45.2.1)) (cond (o45.2.2.2 != (nth (.int .i64) o45.2.1 (Int.toNat o45.2.2.1))) (o0 ()) (rec_ o45.1 o45.2.1 (IntKind.wrap .i64 (o45.2.2.1 + (1 : Int))))) none)) (o1 ()))
def F_ref25_Orders_l35 (N : Nat) : Nat → (List Int) → (List Int) → (Int) → Option ((Unit) ⊕ (Unit))
  | 0, _, _, _ => none
  | m + 1, x22, x23, x24 => F_ref25_Orders_l35_t N x22 x23 x24 (F_ref25_Orders_l35 N m) (fun _ => some (Sum.inl ())) (fun _ => some (Sum.inr ()))
def F_ref25_Orders_l35_O (o : (Unit) ⊕ (Unit)) : Nat × List Lf := sumCase o (fun a => (0, [])) (fun b0 => (1, []))
def F_ref25_Orders_l35_S (N : Nat) : LS := fun R ls κ => match ls with | [w0, w1, w2] => (Option.bind (getL (.int .i64) w0) fun x22 => Option.bind (getL (.int .i64) w1) fun x23 => Option.bind (getI w2) fun x24 => Option.bind (F_ref25_Orders_l35 N N x22 x23 x24) (fun o => (sumCase o (fun a46 => κ 0 []) (fun b47 => κ 1 [])))) | _ => none
def F_ref25_Orders_l35_p : PS := ⟨[(.isl (.int .i64)), (.isl (.int .i64)), .drop, .drop, .drop, .drop, (.int .i64), .drop, .drop, .drop, .drop, .drop, .drop, .drop, .drop, .drop, .drop, .drop, .drop, .drop, .drop, .drop, .drop, .drop, .drop, .drop, .drop, .drop, .drop, .drop, .drop, .drop, .drop, .drop, .drop, .drop, .drop, .drop, .drop, .drop, .drop, .drop, .drop, .drop, .drop, .drop, .drop, .drop, .drop, .drop, .drop, .drop, .drop, .drop, .drop], []⟩
def F_ref25_Orders_l35_o : List (SX × PS) := [(.ret, ⟨[.drop, .drop, .drop, .drop, (.cst (.bool false)), .drop, .drop, .drop, .drop, .drop, .drop, .drop, .drop, .drop, .drop, .drop, .drop, .drop, .drop, .drop, .drop, .drop, .drop, .drop, .drop, .drop, .drop, .drop, .drop, .drop, .drop, .drop, .drop, .drop, .drop, .drop, .drop, .drop, .drop, .drop, .drop, .drop, .drop, .drop, .drop, .drop, .drop, .drop, .drop, .drop, .drop, .drop, .drop, .drop, .drop], []⟩), (.exit 2, ⟨[.drop, .drop, .drop, .drop, .drop, .drop, .drop, .drop, .drop, .drop, .drop, .drop, .drop, .drop, .drop, .drop, .drop, .drop, .drop, .drop, .drop, .drop, .drop, .drop, .drop, .drop, .drop, .drop, .drop, .drop, .drop, .drop, .drop, .drop, .drop, .drop, .drop, .drop, .drop, .drop, .drop, .drop, .drop, .drop, .drop, .drop, .drop, .drop, .drop, .drop, .drop, .drop, .drop, .drop, .drop], []⟩)]
def F_ref25_Orders (N : Nat) (p0 : (List Int)) (p1 : (List Int)) : Option (Bool × Unit) :=
  (Option.bind (F_ref25_Orders_l6 N N p0 p1 (0 : Int)) fun o9 => (sumCase o9 (fun a10 => (some (false, ()))) (fun b11 => (Option.bind (F_ref25_Orders_l35 N N b11.1 b11.2 (0 : Int)) fun o48 => (sumCase o48 (fun a49 => (some (false, ()))) (fun b50 => (some (true, ()))))))))
def F_ref25_Orders_ct (N : Nat) : List (FuncId × CF) := [(27, conF [] [.bool] fun _ => some (true, ()))]
theorem F_ref25_Orders_ok (N : Nat) : CtOK Tryz.prog glA (tabC (F_ref25_Orders_ct N)) hkA := ctok hkok rfl ⟨yes_sound rfl, trivial⟩
def F_ref25_Orders_l6_q (N : Nat) : Pl := .auto
theorem F_ref25_Orders_l6_r (N : Nat) {R : Type} (x3 : List Int) (x4 : List Int) (x5 : Int) (rec_ : List Lf → Option R) (out : Nat → List Lf → Option R) :
    round Tryz.prog glA (tabC (F_ref25_Orders_ct N)) 1500 (F_ref25_Orders_l6_q N) F_ref25_Orders_l6_p F_ref25_Orders_l6_o (roundOf Tryz.f31 [1, 0, 1, 2]) [.l (.int .i64) x3, .l (.int .i64) x4, .i x5] rec_ out = F_ref25_Orders_l6_t N x3 x4 x5 (fun x3 x4 x5 => rec_ [.l (.int .i64) x3, .l (.int .i64) x4, .i x5]) (fun _ => out 0 []) (fun v0 v1 => out 1 [.l (.int .i64) v0, .l (.int .i64) v1]) := by kernel_rfl
theorem F_ref25_Orders_l6_rel {rd : RD} {O : Type} {OUT : O → Nat × List Lf} (N : Nat) (x3 : List Int) (x4 : List Int) (x5 : Int) (r1 : (List Int) → (List Int) → (Int) → Option O) (r2 : (List Int) → (List Int) → (Int) → Option (List Lf ⊕ (Nat × List Lf))) (p0 : Unit → Option O) (q0 : Unit → Option (List Lf ⊕ (Nat × List Lf))) (p1 : (List Int) → (List Int) → Option O) (q1 : (List Int) → (List Int) → Option (List Lf ⊕ (Nat × List Lf))) (hr : ∀ x3 x4 x5, Rel rd OUT (r1 x3 x4 x5) (r2 x3 x4 x5)) (h0 : ∀ v, Rel rd OUT (p0 v) (q0 v)) (h1 : ∀ v0 v1, Rel rd OUT (p1 v0 v1) (q1 v0 v1)) :
    Rel rd OUT (F_ref25_Orders_l6_t N x3 x4 x5 r1 p0 p1) (F_ref25_Orders_l6_t N x3 x4 x5 r2 q0 q1) := by
  unfold F_ref25_Orders_l6_t
  exact (Rel.cond (Rel.cond (Rel.cond (h0 _) (Rel.cond (Rel.cond (h0 _) (hr _ _ _)) Rel.none)) Rel.none) (h1 _ _))
theorem F_ref25_Orders_l6_it (N : Nat) : ∀ (m : Nat) (x3 : List Int) (x4 : List Int) (x5 : Int) (o : (Unit) ⊕ ((List Int) × (List Int))), F_ref25_Orders_l6 N m x3 x4 x5 = some o → It (round1 Tryz.prog glA (tabC (F_ref25_Orders_ct N)) 1500 (F_ref25_Orders_l6_q N) F_ref25_Orders_l6_p F_ref25_Orders_l6_o (roundOf Tryz.f31 [1, 0, 1, 2])) [.l (.int .i64) x3, .l (.int .i64) x4, .i x5] (F_ref25_Orders_l6_O o)
  | 0, _, _, _, o, h => by cases h
  | m + 1, x3, x4, x5, o, h => Rel.it2 (F_ref25_Orders_l6_r N (R := List Lf ⊕ (Nat × List Lf)) x3 x4 x5 (fun l => some (.inl l)) (fun k os => some (.inr (k, os)))) (F_ref25_Orders_l6_rel N x3 x4 x5 _ _ _ _ _ _ (fun x3 x4 x5 => Rel.rec_ fun o h => F_ref25_Orders_l6_it N m x3 x4 x5 o h) (fun _ => Rel.out rfl) (fun _ _ => Rel.out rfl)) h
theorem F_ref25_Orders_l6_sp (N : Nat) : LoopSpec (round1 Tryz.prog glA (tabC (F_ref25_Orders_ct N)) 1500 (F_ref25_Orders_l6_q N) F_ref25_Orders_l6_p F_ref25_Orders_l6_o (roundOf Tryz.f31 [1, 0, 1, 2])) (F_ref25_Orders_l6_S N) := by
  intro R ls κ r h
  unfold F_ref25_Orders_l6_S at h
  split at h
  · obtain ⟨x3, e0, g0⟩ := bindS h
    obtain ⟨x4, e1, g1⟩ := bindS g0
    obtain ⟨x5, e2, g2⟩ := bindS g1
    cases getL_s e0
    cases getL_s e1
    cases getI_s e2
    obtain ⟨o, h1, h2⟩ := bindS g2
    rcases o with o | o
    · exact ⟨_, _, F_ref25_Orders_l6_it N N _ _ _ _ h1, h2⟩
    · exact ⟨_, _, F_ref25_Orders_l6_it N N _ _ _ _ h1, h2⟩
  · cases h
theorem F_ref25_Orders_l6_c (N : Nat) : SndC Tryz.prog glA hkA (.loop (roundOf Tryz.f31 [1, 0, 1, 2])) (byLoop [] F_ref25_Orders_l6_p F_ref25_Orders_l6_o (F_ref25_Orders_l6_S N)) :=
  loop_sound (F_ref25_Orders_ok N) (plok_of (show loopsOf Tryz.prog (F_ref25_Orders_l6_q N) (roundOf Tryz.f31 [1, 0, 1, 2]) = some [] by kernel_rfl) trivial) (F_ref25_Orders_l6_sp N)
def F_ref25_Orders_l44_q (N : Nat) : Pl := .auto
theorem F_ref25_Orders_l44_r (N : Nat) {R : Type} (x39 : List Int) (x40 : List Int) (x41 : Int) (x42 : Int) (x43 : Int) (rec_ : List Lf → Option R) (out : Nat → List Lf → Option R) :
    round Tryz.prog glA (tabC (F_ref25_Orders_ct N)) 1500 (F_ref25_Orders_l44_q N) F_ref25_Orders_l44_p F_ref25_Orders_l44_o (roundOf Tryz.f31 [1, 1, 0, 1, 2, 2, 1, 0, 2, 1, 0, 1, 2]) [.l (.int .i64) x39, .l (.int .i64) x40, .i x41, .i x42, .i x43] rec_ out = F_ref25_Orders_l44_t N x39 x40 x41 x42 x43 (fun x39 x40 x41 x42 x43 => rec_ [.l (.int .i64) x39, .l (.int .i64) x40, .i x41, .i x42, .i x43]) (fun v0 v1 v2 v3 => out 0 [.l (.int .i64) v0, .l (.int .i64) v1, .i v2, .i v3]) := by kernel_rfl
theorem F_ref25_Orders_l44_rel {rd : RD} {O : Type} {OUT : O → Nat × List Lf} (N : Nat) (x39 : List Int) (x40 : List Int) (x41 : Int) (x42 : Int) (x43 : Int) (r1 : (List Int) → (List Int) → (Int) → (Int) → (Int) → Option O) (r2 : (List Int) → (List Int) → (Int) → (Int) → (Int) → Option (List Lf ⊕ (Nat × List Lf))) (p0 : (List Int) → (List Int) → (Int) → (Int) → Option O) (q0 : (List Int) → (List Int) → (Int) → (Int) → Option (List Lf ⊕ (Nat × List Lf))) (hr : ∀ x39 x40 x41 x42 x43, Rel rd OUT (r1 x39 x40 x41 x42 x43) (r2 x39 x40 x41 x42 x43)) (h0 : ∀ v0 v1 v2 v3, Rel rd OUT (p0 v0 v1 v2 v3) (q0 v0 v1 v2 v3)) :
    Rel rd OUT (F_ref25_Orders_l44_t N x39 x40 x41 x42 x43 r1 p0) (F_ref25_Orders_l44_t N x39 x40 x41 x42 x43 r2 q0) := by
  unfold F_ref25_Orders_l44_t
  exact (Rel.cond (Rel.cond (Rel.cond (hr _ _ _ _ _) (hr _ _ _ _ _)) Rel.none) (h0 _ _ _ _))
theorem F_ref25_Orders_l44_it (N : Nat) : ∀ (m : Nat) (x39 : List Int) (x40 : List Int) (x41 : Int) (x42 : Int) (x43 : Int) (o : (List Int) × (List Int) × (Int) × (Int)), F_ref25_Orders_l44 N m x39 x40 x41 x42 x43 = some o → It (round1 Tryz.prog glA (tabC (F_ref25_Orders_ct N)) 1500 (F_ref25_Orders_l44_q N) F_ref25_Orders_l44_p F_ref25_Orders_l44_o (roundOf Tryz.f31 [1, 1, 0, 1, 2, 2, 1, 0, 2, 1, 0, 1, 2])) [.l (.int .i64) x39, .l (.int .i64) x40, .i x41, .i x42, .i x43] (F_ref25_Orders_l44_O o)
  | 0, _, _, _, _, _, o, h => by cases h
  | m + 1, x39, x40, x41, x42, x43, o, h => Rel.it2 (F_ref25_Orders_l44_r N (R := List Lf ⊕ (Nat × List Lf)) x39 x40 x41 x42 x43 (fun l => some (.inl l)) (fun k os => some (.inr (k, os)))) (F_ref25_Orders_l44_rel N x39 x40 x41 x42 x43 _ _ _ _ (fun x39 x40 x41 x42 x43 => Rel.rec_ fun o h => F_ref25_Orders_l44_it N m x39 x40 x41 x42 x43 o h) (fun _ _ _ _ => Rel.out rfl)) h
theorem F_ref25_Orders_l44_sp (N : Nat) : LoopSpec (round1 Tryz.prog glA (tabC (F_ref25_Orders_ct N)) 1500 (F_ref25_Orders_l44_q N) F_ref25_Orders_l44_p F_ref25_Orders_l44_o (roundOf Tryz.f31 [1, 1, 0, 1, 2, 2, 1, 0, 2, 1, 0, 1, 2])) (F_ref25_Orders_l44_S N) := by
  intro R ls κ r h
  unfold F_ref25_Orders_l44_S at h
  split at h
  · obtain ⟨x39, e0, g0⟩ := bindS h
    obtain ⟨x40, e1, g1⟩ := bindS g0
    obtain ⟨x41, e2, g2⟩ := bindS g1
    obtain ⟨x42, e3, g3⟩ := bindS g2
    obtain ⟨x43, e4, g4⟩ := bindS g3
    cases getL_s e0
    cases getL_s e1
    cases getI_s e2
    cases getI_s e3
    cases getI_s e4
    obtain ⟨o, h1, h2⟩ := bindS g4
    exact ⟨_, _, F_ref25_Orders_l44_it N N _ _ _ _ _ o h1, h2⟩
  · cases h
theorem F_ref25_Orders_l44_c (N : Nat) : SndC Tryz.prog glA hkA (.loop (roundOf Tryz.f31 [1, 1, 0, 1, 2, 2, 1, 0, 2, 1, 0, 1, 2])) (byLoop [] F_ref25_Orders_l44_p F_ref25_Orders_l44_o (F_ref25_Orders_l44_S N)) :=
  loop_sound (F_ref25_Orders_ok N) (plok_of (show loopsOf Tryz.prog (F_ref25_Orders_l44_q N) (roundOf Tryz.f31 [1, 1, 0, 1, 2, 2, 1, 0, 2, 1, 0, 1, 2]) = some [] by kernel_rfl) trivial) (F_ref25_Orders_l44_sp N)
def F_ref25_Orders_l35_q (N : Nat) : Pl := (.two .auto (.two (.one (.two .auto (.two (.two .auto (.one (.by_ (byLoop [] F_ref25_Orders_l44_p F_ref25_Orders_l44_o (F_ref25_Orders_l44_S N))))) .auto))) .auto))
theorem F_ref25_Orders_l35_r (N : Nat) {R : Type} (x22 : List Int) (x23 : List Int) (x24 : Int) (rec_ : List Lf → Option R) (out : Nat → List Lf → Option R) :
    round Tryz.prog glA (tabC (F_ref25_Orders_ct N)) 1500 (F_ref25_Orders_l35_q N) F_ref25_Orders_l35_p F_ref25_Orders_l35_o (roundOf Tryz.f31 [1, 1, 0, 1, 2]) [.l (.int .i64) x22, .l (.int .i64) x23, .i x24] rec_ out = F_ref25_Orders_l35_t N x22 x23 x24 (fun x22 x23 x24 => rec_ [.l (.int .i64) x22, .l (.int .i64) x23, .i x24]) (fun _ => out 0 []) (fun _ => out 1 []) := by kernel_rfl
theorem F_ref25_Orders_l35_rel {rd : RD} {O : Type} {OUT : O → Nat × List Lf} (N : Nat) (x22 : List Int) (x23 : List Int) (x24 : Int) (r1 : (List Int) → (List Int) → (Int) → Option O) (r2 : (List Int) → (List Int) → (Int) → Option (List Lf ⊕ (Nat × List Lf))) (p0 : Unit → Option O) (q0 : Unit → Option (List Lf ⊕ (Nat × List Lf))) (p1 : Unit → Option O) (q1 : Unit → Option (List Lf ⊕ (Nat × List Lf))) (hr : ∀ x22 x23 x24, Rel rd OUT (r1 x22 x23 x24) (r2 x22 x23 x24)) (h0 : ∀ v, Rel rd OUT (p0 v) (q0 v)) (h1 : ∀ v, Rel rd OUT (p1 v) (q1 v)) :
    Rel rd OUT (F_ref25_Orders_l35_t N x22 x23 x24 r1 p0 p1) (F_ref25_Orders_l35_t N x22 x23 x24 r2 q0 q1) := by
  unfold F_ref25_Orders_l35_t
  exact (Rel.cond (Rel.bind fun o45 => (Rel.cond (Rel.cond (h0 _) (hr _ _ _)) Rel.none)) (h1 _))
theorem F_ref25_Orders_l35_it (N : Nat) : ∀ (m : Nat) (x22 : List Int) (x23 : List Int) (x24 : Int) (o : (Unit) ⊕ (Unit)), F_ref25_Orders_l35 N m x22 x23 x24 = some o → It (round1 Tryz.prog glA (tabC (F_ref25_Orders_ct N)) 1500 (F_ref25_Orders_l35_q N) F_ref25_Orders_l35_p F_ref25_Orders_l35_o (roundOf Tryz.f31 [1, 1, 0, 1, 2])) [.l (.int .i64) x22, .l (.int .i64) x23, .i x24] (F_ref25_Orders_l35_O o)
  | 0, _, _, _, o, h => by cases h
  | m + 1, x22, x23, x24, o, h => Rel.it2 (F_ref25_Orders_l35_r N (R := List Lf ⊕ (Nat × List Lf)) x22 x23 x24 (fun l => some (.inl l)) (fun k os => some (.inr (k, os)))) (F_ref25_Orders_l35_rel N x22 x23 x24 _ _ _ _ _ _ (fun x22 x23 x24 => Rel.rec_ fun o h => F_ref25_Orders_l35_it N m x22 x23 x24 o h) (fun _ => Rel.out rfl) (fun _ => Rel.out rfl)) h
theorem F_ref25_Orders_l35_sp (N : Nat) : LoopSpec (round1 Tryz.prog glA (tabC (F_ref25_Orders_ct N)) 1500 (F_ref25_Orders_l35_q N) F_ref25_Orders_l35_p F_ref25_Orders_l35_o (roundOf Tryz.f31 [1, 1, 0, 1, 2])) (F_ref25_Orders_l35_S N) := by
  intro R ls κ r h
  unfold F_ref25_Orders_l35_S at h
  split at h
  · obtain ⟨x22, e0, g0⟩ := bindS h
    obtain ⟨x23, e1, g1⟩ := bindS g0
    obtain ⟨x24, e2, g2⟩ := bindS g1
    cases getL_s e0
    cases getL_s e1
    cases getI_s e2
    obtain ⟨o, h1, h2⟩ := bindS g2
    rcases o with o | o
    · exact ⟨_, _, F_ref25_Orders_l35_it N N _ _ _ _ h1, h2⟩
    · exact ⟨_, _, F_ref25_Orders_l35_it N N _ _ _ _ h1, h2⟩
  · cases h
theorem F_ref25_Orders_l35_c (N : Nat) : SndC Tryz.prog glA hkA (.loop (roundOf Tryz.f31 [1, 1, 0, 1, 2])) (byLoop [] F_ref25_Orders_l35_p F_ref25_Orders_l35_o (F_ref25_Orders_l35_S N)) :=
  loop_sound (F_ref25_Orders_ok N) (plok_of (show loopsOf Tryz.prog (F_ref25_Orders_l35_q N) (roundOf Tryz.f31 [1, 1, 0, 1, 2]) = some [((roundOf Tryz.f31 [1, 1, 0, 1, 2, 2, 1, 0, 2, 1, 0, 1, 2]), byLoop [] F_ref25_Orders_l44_p F_ref25_Orders_l44_o (F_ref25_Orders_l44_S N))] by kernel_rfl) ⟨F_ref25_Orders_l44_c N, trivial⟩) (F_ref25_Orders_l35_sp N)
def F_ref25_Orders_pl (N : Nat) : Pl := (.two .auto (.two (.two .auto (.one (.by_ (byLoop [] F_ref25_Orders_l6_p F_ref25_Orders_l6_o (F_ref25_Orders_l6_S N))))) (.two (.two .auto (.one (.by_ (byLoop [] F_ref25_Orders_l35_p F_ref25_Orders_l35_o (F_ref25_Orders_l35_S N))))) .auto)))
theorem F_ref25_Orders_s (N : Nat) (x : El (tupU [(.sl (.int .i64)), (.sl (.int .i64))])) : scall Tryz.prog glA (tabC (F_ref25_Orders_ct N)) 1500 (F_ref25_Orders_pl N) 31 (argsOf [(.sl (.int .i64)), (.sl (.int .i64))] x) [] (retOf [.bool]) = F_ref25_Orders N x.1 x.2.1 := by kernel_rfl
theorem F_ref25_Orders_k (N : Nat) : ∀ fn b, Tryz.prog.funcs[31]? = some fn → fn.body = some b → PlOK Tryz.prog glA hkA (F_ref25_Orders_pl N) b :=
  plok_fn Tryz.func31 (show (match Tryz.f31.body with | some b => loopsOf Tryz.prog (F_ref25_Orders_pl N) b | none => none) = some [((roundOf Tryz.f31 [1, 0, 1, 2]), byLoop [] F_ref25_Orders_l6_p F_ref25_Orders_l6_o (F_ref25_Orders_l6_S N)), ((roundOf Tryz.f31 [1, 1, 0, 1, 2]), byLoop [] F_ref25_Orders_l35_p F_ref25_Orders_l35_o (F_ref25_Orders_l35_S N))] by kernel_rfl) ⟨F_ref25_Orders_l6_c N, F_ref25_Orders_l35_c N, trivial⟩
theorem F_ref25_Orders_c (N : Nat) : SndF Tryz.prog glA hkA 31 (conF [(.sl (.int .i64)), (.sl (.int .i64))] [.bool] fun x => F_ref25_Orders N x.1 x.2.1) := con_sound (F_ref25_Orders_ok N) (F_ref25_Orders_k N) (F_ref25_Orders_s N)
-- cubbyhole/cubbyholelaw25.AuditOrders
def F_law25_AuditOrders_l19_t (N : Nat) {R : Type} (x14 : List UInt8) (x15 : List Int) (x16 : Int) (x17 : Int) (x18 : List Int) (rec_ : (List UInt8) → (List Int) → (Int) → (Int) → (List Int) → Option R) (o0 : (List UInt8) → (List Int) → Option R) : Option R :=
  (cond (decide (x17 < x16)) (cond (inb x17 (List.length x15)) (cond (Nat.blt ((List.length x18) + 1) lim39) (rec_ x14 x15 x16 (IntKind.wrap .i64 (x17 + (1 : Int))) (x18 ++ ([(IntKind.wrap .i64 (nth (.int .i8) x15 (Int.toNat x17)))] : List Int))) none) none) (o0 x14 x18))
def F_law25_AuditOrders_l19 (N : Nat) : Nat → (List UInt8) → (List Int) → (Int) → (Int) → (List Int) → Option ((List UInt8) × (List Int))
  | 0, _, _, _, _, _ => none
  | m + 1, x14, x15, x16, x17, x18 => F_law25_AuditOrders_l19_t N x14 x15 x16 x17 x18 (F_law25_AuditOrders_l19 N m) (fun v0 v1 => some (v0, v1))
def F_law25_AuditOrders_l19_O (o : (List UInt8) × (List Int)) : Nat × List Lf := (0, [.l .u8 o.1, .l (.int .i64) o.2])
def F_law25_AuditOrders_l19_S (N : Nat) : LS := fun R ls κ => match ls with | [w0, w1, w2, w3, w4] => (Option.bind (getL .u8 w0) fun x14 => Option.bind (getL (.int .i8) w1) fun x15 => Option.bind (getI w2) fun x16 => Option.bind (getI w3) fun x17 => Option.bind (getL (.int .i64) w4) fun x18 => Option.bind (F_law25_AuditOrders_l19 N N x14 x15 x16 x17 x18) (fun o => κ 0 [.l .u8 o.1, .l (.int .i64) o.2])) | _ => none
def F_law25_AuditOrders_l19_p : PS := ⟨[.drop, (.isl .u8), .drop, .drop, .drop, (.gs 0 1), (.cst .nils), .drop, .drop, .drop, .drop, .drop, .drop, .drop, .drop, .drop, .drop, .drop, .drop, .drop, .drop, .drop, .drop, .drop, (.isl (.int .i8)), (.int .i64), (.int .i64), .drop, .drop, .drop, .drop, .drop, .drop, .drop, .drop, .drop, .drop, .drop, .drop, .drop, .drop, .drop, .drop, .drop, .drop, .drop, .drop, .drop, .drop, .drop, .drop, .drop, .drop, .drop, .drop, .drop, .drop, .drop, .drop, .drop, .drop, .drop, .drop, .drop, .drop, .drop, .drop, .drop, .drop, .drop, .drop, .drop, .drop, .drop, .drop, .drop, .drop, .drop, .drop, .drop, .drop, .drop, .drop, .drop], [.seq (.int .i64) 1 0 false]⟩
def F_law25_AuditOrders_l19_o : List (SX × PS) := [(.exit 0, ⟨[.drop, (.isl .u8), .drop, .drop, .drop, (.gs 0 1), (.cst .nils), .drop, .drop, .drop, .drop, .drop, .drop, .drop, .drop, .drop, .drop, .drop, .drop, .drop, .drop, .drop, .drop, .drop, .drop, .drop, .drop, .drop, .drop, .drop, .drop, .drop, .drop, .drop, .drop, .drop, .drop, .drop, .drop, .drop, .drop, .drop, .drop, .drop, .drop, .drop, .drop, .drop, .drop, .drop, .drop, .drop, .drop, .drop, .drop, .drop, .drop, .drop, .drop, .drop, .drop, .drop, .drop, .drop, .drop, .drop, .drop, .drop, .drop, .drop, .drop, .drop, .drop, .drop, .drop, .drop, .drop, .drop, .drop, .drop, .drop, .drop, .drop, .drop], [.seq (.int .i64) 1 0 false]⟩)]
def F_law25_AuditOrders_l37_t (N : Nat) {R : Type} (x32 : List UInt8) (x33 : Int) (x34 : Int) (x35 : List Int) (x36 : List Int) (rec_ : (List UInt8) → (Int) → (Int) → (List Int) → (List Int) → Option R) (o0 : (List Int) → (List Int) → Option R) : Option R :=
  (cond (decide (x34 < x33)) (cond (inb x34 (List.length x32)) (cond (Nat.blt ((List.length x36) + 1) lim39) (rec_ x32 x33 (IntKind.wrap .i64 (x34 + (1 : Int))) x35 (x36 ++ ([(IntKind.wrap .i64 ((UInt8.toNat (nth .u8 x32 (Int.toNat x34)) : Nat) : Int))] : List Int))) none) none) (o0 x35 x36))
def F_law25_AuditOrders_l37 (N : Nat) : Nat → (List UInt8) → (Int) → (Int) → (List Int) → (List Int) → Option ((List Int) × (List Int))
  | 0, _, _, _, _, _ => none
  | m + 1, x32, x33, x34, x35, x36 => F_law25_AuditOrders_l37_t N x32 x33 x34 x35 x36 (F_law25_AuditOrders_l37 N m) (fun v0 v1 => some (v0, v1))
def F_law25_AuditOrders_l37_O (o : (List Int) × (List Int)) : Nat × List Lf := (0, [.l (.int .i64) o.1, .l (.int .i64) o.2])
def F_law25_AuditOrders_l37_S (N : Nat) : LS := fun R ls κ => match ls with | [w0, w1, w2, w3, w4] => (Option.bind (getL .u8 w0) fun x32 => Option.bind (getI w1) fun x33 => Option.bind (getI w2) fun x34 => Option.bind (getL (.int .i64) w3) fun x35 => Option.bind (getL (.int .i64) w4) fun x36 => Option.bind (F_law25_AuditOrders_l37 N N x32 x33 x34 x35 x36) (fun o => κ 0 [.l (.int .i64) o.1, .l (.int .i64) o.2])) | _ => none
def F_law25_AuditOrders_l37_p : PS := ⟨[.drop, .drop, .drop, .drop, .drop, (.gs 0 1), (.gs 1 1), .drop, .drop, .drop, .drop, .drop, .drop, .drop, .drop, .drop, .drop, .drop, .drop, .drop, .drop, .drop, .drop, .drop, .drop, .drop, .drop, .drop, .drop, .drop, .drop, .drop, .drop, .drop, .drop, .drop, (.isl .u8), (.int .i64), (.int .i64), .drop, .drop, .drop, .drop, .drop, .drop, .drop, .drop, .drop, .drop, .drop, .drop, .drop, .drop, .drop, .drop, .drop, .drop, .drop, .drop, .drop, .drop, .drop, .drop, .drop, .drop, .drop, .drop, .drop, .drop, .drop, .drop, .drop, .drop, .drop, .drop, .drop, .drop, .drop, .drop, .drop, .drop, .drop, .drop, .drop], [.seq (.int .i64) 1 0 true, .seq (.int .i64) 1 0 false]⟩
def F_law25_AuditOrders_l37_o : List (SX × PS) := [(.exit 2, ⟨[.drop, .drop, .drop, .drop, .drop, (.gs 0 1), (.gs 1 1), .drop, .drop, .drop, .drop, .drop, .drop, .drop, .drop, .drop, .drop, .drop, .drop, .drop, .drop, .drop, .drop, .drop, .drop, .drop, .drop, .drop, .drop, .drop, .drop, .drop, .drop, .drop, .drop, .drop, .drop, .drop, .drop, .drop, .drop, .drop, .drop, .drop, .drop, .drop, .drop, .drop, .drop, .drop, .drop, .drop, .drop, .drop, .drop, .drop, .drop, .drop, .drop, .drop, .drop, .drop, .drop, .drop, .drop, .drop, .drop, .drop, .drop, .drop, .drop, .drop, .drop, .drop, .drop, .drop, .drop, .drop, .drop, .drop, .drop, .drop, .drop, .drop], [.seq (.int .i64) 1 0 true, .seq (.int .i64) 1 0 false]⟩)]
def F_law25_AuditOrders_l48_t (N : Nat) {R : Type} (x43 : Int) (x44 : Int) (x45 : List Int) (x46 : List Int) (x47 : List Int) (rec_ : (Int) → (Int) → (List Int) → (List Int) → (List Int) → Option R) (o0 : (List Int) → (List Int) → (List Int) → Option R) : Option R :=
  (cond (decide (x44 < x43)) (cond (inb x44 (List.length x45)) (cond (decide ((0 : Int) ≤ (nth (.int .i64) x45 (Int.toNat x44)))) (cond (inb (nth (.int .i64) x45 (Int.toNat x44)) (List.length x47)) (cond (inb (nth (.int .i64) x45 (Int.toNat x44)) (List.length x47)) (rec_ x43 (IntKind.wrap .i64 (x44 + (1 : Int))) x45 x46 (List.set x47 (Int.toNat (nth (.int .i64) x45 (Int.toNat x44))) (IntKind.wrap .i64 ((nth (.int .i64) x47 (Int.toNat (nth (.int .i64) x45 (Int.toNat x44)))) + (1 : Int))))) none) none) (rec_ x43 (IntKind.wrap .i64 (x44 + (1 : Int))) x45 x46 x47)) none) (o0 x45 x46 x47))
def F_law25_AuditOrders_l48 (N : Nat) : Nat → (Int) → (Int) → (List Int) → (List Int) → (List Int) → Option ((List Int) × (List Int) × (List Int))
  | 0, _, _, _, _, _ => none
  | m + 1, x43, x44, x45, x46, x47 => F_law25_AuditOrders_l48_t N x43 x44 x45 x46 x47 (F_law25_AuditOrders_l48 N m) (fun v0 v1 v2 => some (v0, v1, v2))
def F_law25_AuditOrders_l48_O (o : (List Int) × (List Int) × (List Int)) : Nat × List Lf := (0, [.l (.int .i64) o.1, .l (.int .i64) o.2.1, .l (.int .i64) o.2.2])
def F_law25_AuditOrders_l48_S (N : Nat) : LS := fun R ls κ => match ls with | [w0, w1, w2, w3, w4] => (Option.bind (getI w0) fun x43 => Option.bind (getI w1) fun x44 => Option.bind (getL (.int .i64) w2) fun x45 => Option.bind (getL (.int .i64) w3) fun x46 => Option.bind (getL (.int .i64) w4) fun x47 => Option.bind (F_law25_AuditOrders_l48 N N x43 x44 x45 x46 x47) (fun o => κ 0 [.l (.int .i64) o.1, .l (.int .i64) o.2.1, .l (.int .i64) o.2.2])) | _ => none
def F_law25_AuditOrders_l48_p : PS := ⟨[.drop, .drop, .drop, .drop, .drop, (.gs 0 1), (.gs 1 1), .drop, .drop, .drop, .drop, (.gs 2 0), .drop, .drop, .drop, .drop, .drop, .drop, .drop, .drop, .drop, .drop, .drop, .drop, .drop, .drop, .drop, .drop, .drop, .drop, .drop, .drop, .drop, .drop, .drop, .drop, .drop, .drop, .drop, .drop, .drop, .drop, .drop, .drop, .drop, .drop, .drop, .drop, .drop, (.gs 0 1), (.int .i64), (.int .i64), .drop, .drop, .drop, .drop, .drop, .drop, .drop, .drop, .drop, .drop, .drop, .drop, .drop, .drop, .drop, .drop, .drop, .drop, .drop, .drop, .drop, .drop, .drop, .drop, .drop, .drop, .drop, .drop, .drop, .drop, .drop, .drop], [.seq (.int .i64) 1 0 true, .seq (.int .i64) 1 0 true, .seq (.int .i64) 0 0 true]⟩
def F_law25_AuditOrders_l48_o : List (SX × PS) := [(.exit 4, ⟨[.drop, .drop, .drop, .drop, .drop, (.gs 0 1), (.gs 1 1), .drop, .drop, .drop, .drop, (.gs 2 0), .drop, .drop, .drop, .drop, .drop, .drop, .drop, .drop, .drop, .drop, .drop, .drop, .drop, .drop, .drop, .drop, .drop, .drop, .drop, .drop, .drop, .drop, .drop, .drop, .drop, .drop, .drop, .drop, .drop, .drop, .drop, .drop, .drop, .drop, .drop, .drop, .drop, .drop, .drop, .drop, .drop, .drop, .drop, .drop, .drop, .drop, .drop, .drop, .drop, .drop, .drop, .drop, .drop, .drop, .drop, .drop, .drop, .drop, .drop, .drop, .drop, .drop, .drop, .drop, .drop, .drop, .drop, .drop, .drop, .drop, .drop, .drop], [.seq (.int .i64) 1 0 true, .seq (.int .i64) 1 0 true, .seq (.int .i64) 0 0 true]⟩)]
def F_law25_AuditOrders_l55_t (N : Nat) {R : Type} (x52 : Int) (x53 : Int) (x54 : List Int) (rec_ : (Int) → (Int) → (List Int) → Option R) (o0 : (Int) → (List Int) → Option R) (o1 : (List Int) → Option R) : Option R :=
  (cond (decide (x53 < x52)) (cond (inb x53 (List.length x54)) (cond (decide ((nth (.int .i64) x54 (Int.toNat x53)) < (0 : Int))) (o0 x53 x54) (rec_ x52 (IntKind.wrap .i64 (x53 + (1 : Int))) x54)) none) (o1 x54))
def F_law25_AuditOrders_l55 (N : Nat) : Nat → (Int) → (Int) → (List Int) → Option (((Int) × (List Int)) ⊕ ((List Int)))
  | 0, _, _, _ => none
  | m + 1, x52, x53, x54 => F_law25_AuditOrders_l55_t N x52 x53 x54 (F_law25_AuditOrders_l55 N m) (fun v0 v1 => some (Sum.inl (v0, v1))) (fun v0 => some (Sum.inr v0))
def F_law25_AuditOrders_l55_O (o : ((Int) × (List Int)) ⊕ ((List Int))) : Nat × List Lf := sumCase o (fun a => (0, [.i a.1, .l (.int .i64) a.2])) (fun b0 => (1, [.l (.int .i64) b0]))
def F_law25_AuditOrders_l55_S (N : Nat) : LS := fun R ls κ => match ls with | [w0, w1, w2] => (Option.bind (getI w0) fun x52 => Option.bind (getI w1) fun x53 => Option.bind (getL (.int .i64) w2) fun x54 => Option.bind (F_law25_AuditOrders_l55 N N x52 x53 x54) (fun o => (sumCase o (fun a56 => κ 0 [.i a56.1, .l (.int .i64) a56.2]) (fun b57 => κ 1 [.l (.int .i64) b57])))) | _ => none
def F_law25_AuditOrders_l55_p : PS := ⟨[(.gs 0 1), (.fn 29 [] []), .drop, .drop, .drop, .drop, .drop, (.int .i64), (.int .i64), .drop, .drop, .drop, .drop, .drop, .drop, .drop, .drop, .drop, .drop], [.seq (.int .i64) 1 0 true, .gone, .gone]⟩
def F_law25_AuditOrders_l55_o : List (SX × PS) := [(.ret, ⟨[.drop, .drop, .drop, .drop, (.int .i64), .drop, .drop, .drop, .drop, .drop, .drop, .drop, .drop, .drop, .drop, .drop, .drop, .drop, .drop], [.seq (.int .i64) 1 0 true, .gone, .gone]⟩), (.exit 0, ⟨[.drop, .drop, .drop, .drop, .drop, .drop, .drop, .drop, .drop, .drop, .drop, .drop, .drop, .drop, .drop, .drop, .drop, .drop, .drop], [.seq (.int .i64) 1 0 true, .gone, .gone]⟩)]
def F_law25_AuditOrders (N : Nat) (p0 : (List Int)) (p1 : (List UInt8)) : Option (Bool × Unit) :=
  (cond (decide ((100 : Int) < (((List.length p0) : Nat) : Int))) (Option.bind (some (true, ())) fun y1 => (some (y1.1, ()))) (cond (decide ((30 : Int) < (((List.length p1) : Nat) : Int))) (Option.bind (some (true, ())) fun y2 => (some (y2.1, ()))) (Option.bind (F_law25_AuditOrders_l19 N N p1 p0 (((List.length p0) : Nat) : Int) (0 : Int) ([] : List Int)) fun o20 => (Option.bind (F_law25_AuditOrders_l37 N N o20.1 (((List.length o20.1) : Nat) : Int) (0 : Int) o20.2 ([] : List Int)) fun o38 => (Option.bind (F_law25_AuditOrders_l48 N N (((List.length o38.1) : Nat) : Int) (0 : Int) o38.1 o38.2 (List.replicate 128 (0 : Int))) fun o49 => (Option.bind (F_law25_AuditOrders_l55 N N (((List.length o49.1) : Nat) : Int) (0 : Int) o49.1) fun o58 => (sumCase o58 (fun a59 => (Option.bind (some (true, ())) fun y61 => (cond y61.1 (Option.bind (F_audit_Orders N a59.2 o49.2.1) fun y62 => (Option.bind (F_ref25_Orders N a59.2 o49.2.1) fun y63 => (cond (y62.1 == y63.1) (Option.bind (F_audit_Orders N a59.2 o49.2.2) fun y64 => (some ((y64.1 == (!(decide ((0 : Int) ≤ a59.1)))), ()))) (some (false, ()))))) (some (false, ()))))) (fun b60 => (Option.bind (some (true, ())) fun y65 => (cond y65.1 (Option.bind (F_audit_Orders N b60 o49.2.1) fun y66 => (Option.bind (F_ref25_Orders N b60 o49.2.1) fun y67 => (cond (y66.1 == y67.1) (Option.bind (F_audit_Orders N b60 o49.2.2) fun y68 => (some ((y68.1 == true), ()))) (some (false, ()))))) (some (false, ()))))))))))))
def F_law25_AuditOrders_ct (N : Nat) : List (FuncId × CF) := [(30, conF [(.sl (.int .i64)), (.sl (.int .i64))] [.bool] fun x => F_audit_Orders N x.1 x.2.1), (31, conF [(.sl (.int .i64)), (.sl (.int .i64))] [.bool] fun x => F_ref25_Orders N x.1 x.2.1), (27, conF [] [.bool] fun _ => some (true, ()))]
theorem F_law25_AuditOrders_ok (N : Nat) : CtOK Tryz.prog glA (tabC (F_law25_AuditOrders_ct N)) hkA := ctok hkok rfl ⟨F_audit_Orders_c N, F_ref25_Orders_c N, yes_sound rfl, trivial⟩
def F_law25_AuditOrders_l19_q (N : Nat) : Pl := .auto
theorem F_law25_AuditOrders_l19_r (N : Nat) {R : Type} (x14 : List UInt8) (x15 : List Int) (x16 : Int) (x17 : Int) (x18 : List Int) (rec_ : List Lf → Option R) (out : Nat → List Lf → Option R) :
    round Tryz.prog glA (tabC (F_law25_AuditOrders_ct N)) 1500 (F_law25_AuditOrders_l19_q N) F_law25_AuditOrders_l19_p F_law25_AuditOrders_l19_o (roundOf Tryz.f6 [1, 1, 1, 0, 1, 2]) [.l .u8 x14, .l (.int .i8) x15, .i x16, .i x17, .l (.int .i64) x18] rec_ out = F_law25_AuditOrders_l19_t N x14 x15 x16 x17 x18 (fun x14 x15 x16 x17 x18 => rec_ [.l .u8 x14, .l (.int .i8) x15, .i x16, .i x17, .l (.int .i64) x18]) (fun v0 v1 => out 0 [.l .u8 v0, .l (.int .i64) v1]) := by kernel_rfl
theorem F_law25_AuditOrders_l19_rel {rd : RD} {O : Type} {OUT : O → Nat × List Lf} (N : Nat) (x14 : List UInt8) (x15 : List Int) (x16 : Int) (x17 : Int) (x18 : List Int) (r1 : (List UInt8) → (List Int) → (Int) → (Int) → (List Int) → Option O) (r2 : (List UInt8) → (List Int) → (Int) → (Int) → (List Int) → Option (List Lf ⊕ (Nat × List Lf))) (p0 : (List UInt8) → (List Int) → Option O) (q0 : (List UInt8) → (List Int) → Option (List Lf ⊕ (Nat × List Lf))) (hr : ∀ x14 x15 x16 x17 x18, Rel rd OUT (r1 x14 x15 x16 x17 x18) (r2 x14 x15 x16 x17 x18)) (h0 : ∀ v0 v1, Rel rd OUT (p0 v0 v1) (q0 v0 v1)) :
    Rel rd OUT (F_law25_AuditOrders_l19_t N x14 x15 x16 x17 x18 r1 p0) (F_law25_AuditOrders_l19_t N x14 x15 x16 x17 x18 r2 q0) := by
  unfold F_law25_AuditOrders_l19_t
  exact (Rel.cond (Rel.cond (Rel.cond (hr _ _ _ _ _) Rel.none) Rel.none) (h0 _ _))
theorem F_law25_AuditOrders_l19_it (N : Nat) : ∀ (m : Nat) (x14 : List UInt8) (x15 : List Int) (x16 : Int) (x17 : Int) (x18 : List Int) (o : (List UInt8) × (List Int)), F_law25_AuditOrders_l19 N m x14 x15 x16 x17 x18 = some o → It (round1 Tryz.prog glA (tabC (F_law25_AuditOrders_ct N)) 1500 (F_law25_AuditOrders_l19_q N) F_law25_AuditOrders_l19_p F_law25_AuditOrders_l19_o (roundOf Tryz.f6 [1, 1, 1, 0, 1, 2])) [.l .u8 x14, .l (.int .i8) x15, .i x16, .i x17, .l (.int .i64) x18] (F_law25_AuditOrders_l19_O o)
  | 0, _, _, _, _, _, o, h => by cases h
  | m + 1, x14, x15, x16, x17, x18, o, h => Rel.it2 (F_law25_AuditOrders_l19_r N (R := List Lf ⊕ (Nat × List Lf)) x14 x15 x16 x17 x18 (fun l => some (.inl l)) (fun k os => some (.inr (k, os)))) (F_law25_AuditOrders_l19_rel N x14 x15 x16 x17 x18 _ _ _ _ (fun x14 x15 x16 x17 x18 => Rel.rec_ fun o h => F_law25_AuditOrders_l19_it N m x14 x15 x16 x17 x18 o h) (fun _ _ => Rel.out rfl)) h
theorem F_law25_AuditOrders_l19_sp (N : Nat) : LoopSpec (round1 Tryz.prog glA (tabC (F_law25_AuditOrders_ct N)) 1500 (F_law25_AuditOrders_l19_q N) F_law25_AuditOrders_l19_p F_law25_AuditOrders_l19_o (roundOf Tryz.f6 [1, 1, 1, 0, 1, 2])) (F_law25_AuditOrders_l19_S N) := by
  intro R ls κ r h
  unfold F_law25_AuditOrders_l19_S at h
  split at h
  · obtain ⟨x14, e0, g0⟩ := bindS h
    obtain ⟨x15, e1, g1⟩ := bindS g0
    obtain ⟨x16, e2, g2⟩ := bindS g1
    obtain ⟨x17, e3, g3⟩ := bindS g2
    obtain ⟨x18, e4, g4⟩ := bindS g3
    cases getL_s e0
    cases getL_s e1
    cases getI_s e2
    cases getI_s e3
    cases getL_s e4
    obtain ⟨o, h1, h2⟩ := bindS g4
    exact ⟨_, _, F_law25_AuditOrders_l19_it N N _ _ _ _ _ o h1, h2⟩
  · cases h
theorem F_law25_AuditOrders_l19_c (N : Nat) : SndC Tryz.prog glA hkA (.loop (roundOf Tryz.f6 [1, 1, 1, 0, 1, 2])) (byLoop [(5, (.int .i64))] F_law25_AuditOrders_l19_p F_law25_AuditOrders_l19_o (F_law25_AuditOrders_l19_S N)) :=
  loop_sound (F_law25_AuditOrders_ok N) (plok_of (show loopsOf Tryz.prog (F_law25_AuditOrders_l19_q N) (roundOf Tryz.f6 [1, 1, 1, 0, 1, 2]) = some [] by kernel_rfl) trivial) (F_law25_AuditOrders_l19_sp N)
def F_law25_AuditOrders_l37_q (N : Nat) : Pl := .auto
theorem F_law25_AuditOrders_l37_r (N : Nat) {R : Type} (x32 : List UInt8) (x33 : Int) (x34 : Int) (x35 : List Int) (x36 : List Int) (rec_ : List Lf → Option R) (out : Nat → List Lf → Option R) :
    round Tryz.prog glA (tabC (F_law25_AuditOrders_ct N)) 1500 (F_law25_AuditOrders_l37_q N) F_law25_AuditOrders_l37_p F_law25_AuditOrders_l37_o (roundOf Tryz.f6 [1, 1, 1, 1, 0, 1, 2]) [.l .u8 x32, .i x33, .i x34, .l (.int .i64) x35, .l (.int .i64) x36] rec_ out = F_law25_AuditOrders_l37_t N x32 x33 x34 x35 x36 (fun x32 x33 x34 x35 x36 => rec_ [.l .u8 x32, .i x33, .i x34, .l (.int .i64) x35, .l (.int .i64) x36]) (fun v0 v1 => out 0 [.l (.int .i64) v0, .l (.int .i64) v1]) := by kernel_rfl
theorem F_law25_AuditOrders_l37_rel {rd : RD} {O : Type} {OUT : O → Nat × List Lf} (N : Nat) (x32 : List UInt8) (x33 : Int) (x34 : Int) (x35 : List Int) (x36 : List Int) (r1 : (List UInt8) → (Int) → (Int) → (List Int) → (List Int) → Option O) (r2 : (List UInt8) → (Int) → (Int) → (List Int) → (List Int) → Option (List Lf ⊕ (Nat × List Lf))) (p0 : (List Int) → (List Int) → Option O) (q0 : (List Int) → (List Int) → Option (List Lf ⊕ (Nat × List Lf))) (hr : ∀ x32 x33 x34 x35 x36, Rel rd OUT (r1 x32 x33 x34 x35 x36) (r2 x32 x33 x34 x35 x36)) (h0 : ∀ v0 v1, Rel rd OUT (p0 v0 v1) (q0 v0 v1)) :
    Rel rd OUT (F_law25_AuditOrders_l37_t N x32 x33 x34 x35 x36 r1 p0) (F_law25_AuditOrders_l37_t N x32 x33 x34 x35 x36 r2 q0) := by
  unfold F_law25_AuditOrders_l37_t
  exact (Rel.cond (Rel.cond (Rel.cond (hr _ _ _ _ _) Rel.none) Rel.none) (h0 _ _))
theorem F_law25_AuditOrders_l37_it (N : Nat) : ∀ (m : Nat) (x32 : List UInt8) (x33 : Int) (x34 : Int) (x35 : List Int) (x36 : List Int) (o : (List Int) × (List Int)), F_law25_AuditOrders_l37 N m x32 x33 x34 x35 x36 = some o → It (round1 Tryz.prog glA (tabC (F_law25_AuditOrders_ct N)) 1500 (F_law25_AuditOrders_l37_q N) F_law25_AuditOrders_l37_p F_law25_AuditOrders_l37_o (roundOf Tryz.f6 [1, 1, 1, 1, 0, 1, 2])) [.l .u8 x32, .i x33, .i x34, .l (.int .i64) x35, .l (.int .i64) x36] (F_law25_AuditOrders_l37_O o)
  | 0, _, _, _, _, _, o, h => by cases h
  | m + 1, x32, x33, x34, x35, x36, o, h => Rel.it2 (F_law25_AuditOrders_l37_r N (R := List Lf ⊕ (Nat × List Lf)) x32 x33 x34 x35 x36 (fun l => some (.inl l)) (fun k os => some (.inr (k, os)))) (F_law25_AuditOrders_l37_rel N x32 x33 x34 x35 x36 _ _ _ _ (fun x32 x33 x34 x35 x36 => Rel.rec_ fun o h => F_law25_AuditOrders_l37_it N m x32 x33 x34 x35 x36 o h) (fun _ _ => Rel.out rfl)) h
theorem F_law25_AuditOrders_l37_sp (N : Nat) : LoopSpec (round1 Tryz.prog glA (tabC (F_law25_AuditOrders_ct N)) 1500 (F_law25_AuditOrders_l37_q N) F_law25_AuditOrders_l37_p F_law25_AuditOrders_l37_o (roundOf Tryz.f6 [1, 1, 1, 1, 0, 1, 2])) (F_law25_AuditOrders_l37_S N) := by
  intro R ls κ r h
  unfold F_law25_AuditOrders_l37_S at h
  split at h
  · obtain ⟨x32, e0, g0⟩ := bindS h
    obtain ⟨x33, e1, g1⟩ := bindS g0
    obtain ⟨x34, e2, g2⟩ := bindS g1
    obtain ⟨x35, e3, g3⟩ := bindS g2
    obtain ⟨x36, e4, g4⟩ := bindS g3
    cases getL_s e0
    cases getI_s e1
    cases getI_s e2
    cases getL_s e3
    cases getL_s e4
    obtain ⟨o, h1, h2⟩ := bindS g4
    exact ⟨_, _, F_law25_AuditOrders_l37_it N N _ _ _ _ _ o h1, h2⟩
  · cases h
theorem F_law25_AuditOrders_l37_c (N : Nat) : SndC Tryz.prog glA hkA (.loop (roundOf Tryz.f6 [1, 1, 1, 1, 0, 1, 2])) (byLoop [(6, (.int .i64))] F_law25_AuditOrders_l37_p F_law25_AuditOrders_l37_o (F_law25_AuditOrders_l37_S N)) :=
  loop_sound (F_law25_AuditOrders_ok N) (plok_of (show loopsOf Tryz.prog (F_law25_AuditOrders_l37_q N) (roundOf Tryz.f6 [1, 1, 1, 1, 0, 1, 2]) = some [] by kernel_rfl) trivial) (F_law25_AuditOrders_l37_sp N)
def F_law25_AuditOrders_l48_q (N : Nat) : Pl := .auto
theorem F_law25_AuditOrders_l48_r (N : Nat) {R : Type} (x43 : Int) (x44 : Int) (x45 : List Int) (x46 : List Int) (x47 : List Int) (rec_ : List Lf → Option R) (out : Nat → List Lf → Option R) :
    round Tryz.prog glA (tabC (F_law25_AuditOrders_ct N)) 1500 (F_law25_AuditOrders_l48_q N) F_law25_AuditOrders_l48_p F_law25_AuditOrders_l48_o (roundOf Tryz.f6 [1, 1, 1, 1, 1, 1, 0, 1, 2]) [.i x43, .i x44, .l (.int .i64) x45, .l (.int .i64) x46, .l (.int .i64) x47] rec_ out = F_law25_AuditOrders_l48_t N x43 x44 x45 x46 x47 (fun x43 x44 x45 x46 x47 => rec_ [.i x43, .i x44, .l (.int .i64) x45, .l (.int .i64) x46, .l (.int .i64) x47]) (fun v0 v1 v2 => out 0 [.l (.int .i64) v0, .l (.int .i64) v1, .l (.int .i64) v2]) := by kernel_rfl
theorem F_law25_AuditOrders_l48_rel {rd : RD} {O : Type} {OUT : O → Nat × List Lf} (N : Nat) (x43 : Int) (x44 : Int) (x45 : List Int) (x46 : List Int) (x47 : List Int) (r1 : (Int) → (Int) → (List Int) → (List Int) → (List Int) → Option O) (r2 : (Int) → (Int) → (List Int) → (List Int) → (List Int) → Option (List Lf ⊕ (Nat × List Lf))) (p0 : (List Int) → (List Int) → (List Int) → Option O) (q0 : (List Int) → (List Int) → (List Int) → Option (List Lf ⊕ (Nat × List Lf))) (hr : ∀ x43 x44 x45 x46 x47, Rel rd OUT (r1 x43 x44 x45 x46 x47) (r2 x43 x44 x45 x46 x47)) (h0 : ∀ v0 v1 v2, Rel rd OUT (p0 v0 v1 v2) (q0 v0 v1 v2)) :
    Rel rd OUT (F_law25_AuditOrders_l48_t N x43 x44 x45 x46 x47 r1 p0) (F_law25_AuditOrders_l48_t N x43 x44 x45 x46 x47 r2 q0) := by
  unfold F_law25_AuditOrders_l48_t
  exact (Rel.cond (Rel.cond (Rel.cond (Rel.cond (Rel.cond (hr _ _ _ _ _) Rel.none) Rel.none) (hr _ _ _ _ _)) Rel.none) (h0 _ _ _))
theorem F_law25_AuditOrders_l48_it (N : Nat) : ∀ (m : Nat) (x43 : Int) (x44 : Int) (x45 : List Int) (x46 : List Int) (x47 : List Int) (o : (List Int) × (List Int) × (List Int)), F_law25_AuditOrders_l48 N m x43 x44 x45 x46 x47 = some o → It (round1 Tryz.prog glA (tabC (F_law25_AuditOrders_ct N)) 1500 (F_law25_AuditOrders_l48_q N) F_law25_AuditOrders_l48_p F_law25_AuditOrders_l48_o (roundOf Tryz.f6 [1, 1, 1, 1, 1, 1, 0, 1, 2])) [.i x43, .i x44, .l (.int .i64) x45, .l (.int .i64) x46, .l (.int .i64) x47] (F_law25_AuditOrders_l48_O o)
  | 0, _, _, _, _, _, o, h => by cases h
  | m + 1, x43, x44, x45, x46, x47, o, h => Rel.it2 (F_law25_AuditOrders_l48_r N (R := List Lf ⊕ (Nat × List Lf)) x43 x44 x45 x46 x47 (fun l => some (.inl l)) (fun k os => some (.inr (k, os)))) (F_law25_AuditOrders_l48_rel N x43 x44 x45 x46 x47 _ _ _ _ (fun x43 x44 x45 x46 x47 => Rel.rec_ fun o h => F_law25_AuditOrders_l48_it N m x43 x44 x45 x46 x47 o h) (fun _ _ _ => Rel.out rfl)) h
theorem F_law25_AuditOrders_l48_sp (N : Nat) : LoopSpec (round1 Tryz.prog glA (tabC (F_law25_AuditOrders_ct N)) 1500 (F_law25_AuditOrders_l48_q N) F_law25_AuditOrders_l48_p F_law25_AuditOrders_l48_o (roundOf Tryz.f6 [1, 1, 1, 1, 1, 1, 0, 1, 2])) (F_law25_AuditOrders_l48_S N) := by
  intro R ls κ r h
  unfold F_law25_AuditOrders_l48_S at h
  split at h
  · obtain ⟨x43, e0, g0⟩ := bindS h
    obtain ⟨x44, e1, g1⟩ := bindS g0
    obtain ⟨x45, e2, g2⟩ := bindS g1
    obtain ⟨x46, e3, g3⟩ := bindS g2
    obtain ⟨x47, e4, g4⟩ := bindS g3
    cases getI_s e0
    cases getI_s e1
    cases getL_s e2
    cases getL_s e3
    cases getL_s e4
    obtain ⟨o, h1, h2⟩ := bindS g4
    exact ⟨_, _, F_law25_AuditOrders_l48_it N N _ _ _ _ _ o h1, h2⟩
  · cases h
theorem F_law25_AuditOrders_l48_c (N : Nat) : SndC Tryz.prog glA hkA (.loop (roundOf Tryz.f6 [1, 1, 1, 1, 1, 1, 0, 1, 2])) (byLoop [] F_law25_AuditOrders_l48_p F_law25_AuditOrders_l48_o (F_law25_AuditOrders_l48_S N)) :=
  loop_sound (F_law25_AuditOrders_ok N) (plok_of (show loopsOf Tryz.prog (F_law25_AuditOrders_l48_q N) (roundOf Tryz.f6 [1, 1, 1, 1, 1, 1, 0, 1, 2]) = some [] by kernel_rfl) trivial) (F_law25_AuditOrders_l48_sp N)
def F_law25_AuditOrders_l55_q (N : Nat) : Pl := .auto
theorem F_law25_AuditOrders_l55_r (N : Nat) {R : Type} (x52 : Int) (x53 : Int) (x54 : List Int) (rec_ : List Lf → Option R) (out : Nat → List Lf → Option R) :
    round Tryz.prog glA (tabC (F_law25_AuditOrders_ct N)) 1500 (F_law25_AuditOrders_l55_q N) F_law25_AuditOrders_l55_p F_law25_AuditOrders_l55_o (roundOf Tryz.f52 [1, 0, 1, 2]) [.i x52, .i x53, .l (.int .i64) x54] rec_ out = F_law25_AuditOrders_l55_t N x52 x53 x54 (fun x52 x53 x54 => rec_ [.i x52, .i x53, .l (.int .i64) x54]) (fun v0 v1 => out 0 [.i v0, .l (.int .i64) v1]) (fun v0 => out 1 [.l (.int .i64) v0]) := by kernel_rfl
theorem F_law25_AuditOrders_l55_rel {rd : RD} {O : Type} {OUT : O → Nat × List Lf} (N : Nat) (x52 : Int) (x53 : Int) (x54 : List Int) (r1 : (Int) → (Int) → (List Int) → Option O) (r2 : (Int) → (Int) → (List Int) → Option (List Lf ⊕ (Nat × List Lf))) (p0 : (Int) → (List Int) → Option O) (q0 : (Int) → (List Int) → Option (List Lf ⊕ (Nat × List Lf))) (p1 : (List Int) → Option O) (q1 : (List Int) → Option (List Lf ⊕ (Nat × List Lf))) (hr : ∀ x52 x53 x54, Rel rd OUT (r1 x52 x53 x54) (r2 x52 x53 x54)) (h0 : ∀ v0 v1, Rel rd OUT (p0 v0 v1) (q0 v0 v1)) (h1 : ∀ v0, Rel rd OUT (p1 v0) (q1 v0)) :
    Rel rd OUT (F_law25_AuditOrders_l55_t N x52 x53 x54 r1 p0 p1) (F_law25_AuditOrders_l55_t N x52 x53 x54 r2 q0 q1) := by
  unfold F_law25_AuditOrders_l55_t
  exact (Rel.cond (Rel.cond (Rel.cond (h0 _ _) (hr _ _ _)) Rel.none) (h1 _))
theorem F_law25_AuditOrders_l55_it (N : Nat) : ∀ (m : Nat) (x52 : Int) (x53 : Int) (x54 : List Int) (o : ((Int) × (List Int)) ⊕ ((List Int))), F_law25_AuditOrders_l55 N m x52 x53 x54 = some o → It (round1 Tryz.prog glA (tabC (F_law25_AuditOrders_ct N)) 1500 (F_law25_AuditOrders_l55_q N) F_law25_AuditOrders_l55_p F_law25_AuditOrders_l55_o (roundOf Tryz.f52 [1, 0, 1, 2])) [.i x52, .i x53, .l (.int .i64) x54] (F_law25_AuditOrders_l55_O o)
  | 0, _, _, _, o, h => by cases h
  | m + 1, x52, x53, x54, o, h => Rel.it2 (F_law25_AuditOrders_l55_r N (R := List Lf ⊕ (Nat × List Lf)) x52 x53 x54 (fun l => some (.inl l)) (fun k os => some (.inr (k, os)))) (F_law25_AuditOrders_l55_rel N x52 x53 x54 _ _ _ _ _ _ (fun x52 x53 x54 => Rel.rec_ fun o h => F_law25_AuditOrders_l55_it N m x52 x53 x54 o h) (fun _ _ => Rel.out rfl) (fun _ => Rel.out rfl)) h
theorem F_law25_AuditOrders_l55_sp (N : Nat) : LoopSpec (round1 Tryz.prog glA (tabC (F_law25_AuditOrders_ct N)) 1500 (F_law25_AuditOrders_l55_q N) F_law25_AuditOrders_l55_p F_law25_AuditOrders_l55_o (roundOf Tryz.f52 [1, 0, 1, 2])) (F_law25_AuditOrders_l55_S N) := by
  intro R ls κ r h
  unfold F_law25_AuditOrders_l55_S at h
  split at h
  · obtain ⟨x52, e0, g0⟩ := bindS h
    obtain ⟨x53, e1, g1⟩ := bindS g0
    obtain ⟨x54, e2, g2⟩ := bindS g1
    cases getI_s e0
    cases getI_s e1
    cases getL_s e2
    obtain ⟨o, h1, h2⟩ := bindS g2
    rcases o with o | o
    · exact ⟨_, _, F_law25_AuditOrders_l55_it N N _ _ _ _ h1, h2⟩
    · exact ⟨_, _, F_law25_AuditOrders_l55_it N N _ _ _ _ h1, h2⟩
  · cases h
theorem F_law25_AuditOrders_l55_c (N : Nat) : SndC Tryz.prog glA hkA (.loop (roundOf Tryz.f52 [1, 0, 1, 2])) (byLoop [] F_law25_AuditOrders_l55_p F_law25_AuditOrders_l55_o (F_law25_AuditOrders_l55_S N)) :=
  loop_sound (F_law25_AuditOrders_ok N) (plok_of (show loopsOf Tryz.prog (F_law25_AuditOrders_l55_q N) (roundOf Tryz.f52 [1, 0, 1, 2]) = some [] by kernel_rfl) trivial) (F_law25_AuditOrders_l55_sp N)
def F_law25_AuditOrders_pl (N : Nat) : Pl := (.two .auto (.two .auto (.two .auto (.two (.two .auto (.one (.by_ (byLoop [(5, (.int .i64))] F_law25_AuditOrders_l19_p F_law25_AuditOrders_l19_o (F_law25_AuditOrders_l19_S N))))) (.two (.two .auto (.one (.by_ (byLoop [(6, (.int .i64))] F_law25_AuditOrders_l37_p F_law25_AuditOrders_l37_o (F_law25_AuditOrders_l37_S N))))) (.two .auto (.two (.two .auto (.one (.by_ (byLoop [] F_law25_AuditOrders_l48_p F_law25_AuditOrders_l48_o (F_law25_AuditOrders_l48_S N))))) (.two (.cal 1 28 (.two .auto (.two (.cal 2 52 (.two .auto (.two (.two .auto (.one (.by_ (byLoop [] F_law25_AuditOrders_l55_p F_law25_AuditOrders_l55_o (F_law25_AuditOrders_l55_S N))))) .auto)) .auto) .auto)) .auto) .auto))))))))
theorem F_law25_AuditOrders_s (N : Nat) (x : El (tupU [(.sl (.int .i8)), (.sl .u8)])) : scall Tryz.prog glA (tabC (F_law25_AuditOrders_ct N)) 1500 (F_law25_AuditOrders_pl N) 6 (argsOf [(.sl (.int .i8)), (.sl .u8)] x) [] (retOf [.bool]) = F_law25_AuditOrders N x.1 x.2.1 := by kernel_rfl
theorem F_law25_AuditOrders_k (N : Nat) : ∀ fn b, Tryz.prog.funcs[6]? = some fn → fn.body = some b → PlOK Tryz.prog glA hkA (F_law25_AuditOrders_pl N) b :=
  plok_fn Tryz.func6 (show (match Tryz.f6.body with | some b => loopsOf Tryz.prog (F_law25_AuditOrders_pl N) b | none => none) = some [((roundOf Tryz.f6 [1, 1, 1, 0, 1, 2]), byLoop [(5, (.int .i64))] F_law25_AuditOrders_l19_p F_law25_AuditOrders_l19_o (F_law25_AuditOrders_l19_S N)), ((roundOf Tryz.f6 [1, 1, 1, 1, 0, 1, 2]), byLoop [(6, (.int .i64))] F_law25_AuditOrders_l37_p F_law25_AuditOrders_l37_o (F_law25_AuditOrders_l37_S N)), ((roundOf Tryz.f6 [1, 1, 1, 1, 1, 1, 0, 1, 2]), byLoop [] F_law25_AuditOrders_l48_p F_law25_AuditOrders_l48_o (F_law25_AuditOrders_l48_S N)), ((roundOf Tryz.f52 [1, 0, 1, 2]), byLoop [] F_law25_AuditOrders_l55_p F_law25_AuditOrders_l55_o (F_law25_AuditOrders_l55_S N))] by kernel_rfl) ⟨F_law25_AuditOrders_l19_c N, F_law25_AuditOrders_l37_c N, F_law25_AuditOrders_l48_c N, F_law25_AuditOrders_l55_c N, trivial⟩
theorem F_law25_AuditOrders_c (N : Nat) : SndF Tryz.prog glA hkA 6 (conF [(.sl (.int .i8)), (.sl .u8)] [.bool] fun x => F_law25_AuditOrders N x.1 x.2.1) := con_sound (F_law25_AuditOrders_ok N) (F_law25_AuditOrders_k N) (F_law25_AuditOrders_s N)
end Go.Proofs.YtnoodkgfjdajgaaGreatDoor
