/-
  Closed runs,19: code,loops,calls,in stages: what the staged evaluator finds is what the run does ('evalC_ok'). Over any program.
-/
import Derived.Test.YteonaddammjopaaGreatDoorCgl14
namespace Cr.Cl
open Go Go.MapKept
set_option maxRecDepth 4000
noncomputable section
structure ResF where
 g : Envs → Heap → Option (List SV)
structure Res1F where
 g : Envs → Heap → Option SV
section
variable (Γ : Ctx)
def res1C : ResultVar → Res1F
 | .tmp t => ⟨fun e _ => (getC t).g e⟩
 | .cell a t => ⟨fun e h => match (getC a).g e with
  | some (.p o off) => Zra Γ h t o off
  | _ => none⟩
theorem res1C_eq (r : ResultVar) (e : Envs) (h : Heap) : (res1C Γ r).g e h = resS Γ e h r := by
 cases r with
 | tmp t => exact Zjb t e
 | cell a t => simp only [res1C,resS,Zjb] <;> rfl
def resC : List ResultVar → ResF
 | [] => ⟨fun _ _ => some []⟩
 | r :: l => ⟨fun e h => match (res1C Γ r).g e h with
  | some a => match (resC l).g e h with | some b => some (a :: b) | none => none
  | none => none⟩
theorem Zq1 (e : Envs) (h : Heap) : ∀ l : List ResultVar,(resC Γ l).g e h = Zpf Γ e h l
 | [] => rfl
 | r :: l => by simp only [resC,Zpf,res1C_eq,Zq1 e h l] <;> rfl
def Zh8 : Code → CF
 | .skip => ⟨fun _ e m k => k .n e m⟩
 | .label _ => ⟨fun _ e m k => k .n e m⟩
 | .region _ ops draw => bif draw then ⟨fun rec e m k => (drawC Γ ops.toList).g rec e m (k .n)⟩ else ⟨fun rec e m k => (opsC Γ ops.toList ops.toList).g rec e m (k .n)⟩
 | .seq a b => ⟨fun rec e m k => (Zh8 a).g rec e m (fun x e m => match x with | .n => (Zh8 b).g rec e m k | .r => k .r e m | .x i => k (.x i) e m)⟩
 | .cond c a b => ⟨fun rec e m k => match (Zfq c).g e with
  | some (.b t) => bif t then (Zh8 a).g rec e m k else (Zh8 b).g rec e m k
  | _ => none⟩
 | .block id b => ⟨fun rec e m k => (Zh8 b).g rec e m (fun x e m => match x with | .n => k .n e m | .r => k .r e m | .x i => bif Nat.beq i id then k .n e m else k (.x i) e m)⟩
 | .loop b => ⟨fun rec e m k => match rec (.loop b e m) with
  | some (.out x e m) => k x e m
  | _ => none⟩
 | .scope b => Zh8 b
 | .exit id => ⟨fun _ e m k => k (.x id) e m⟩
 | .ret => ⟨fun _ e m k => k .r e m⟩
 | _ => ⟨fun _ _ _ _ => none⟩
def funC (f : Nat) : FF := match Γ.nat.get f with
 | some nf => ⟨fun _ args m => match nf args m with
  | some (v,m) => some (.ret v m)
  | none => none⟩
 | none => match Γ.fn.get f with
  | some fn => match fn.body with
   | some body => ⟨fun rec args m => bif Nat.ble args.length fn.ntmps then (Zh8 Γ body).g rec (enumE 0 args .nil) m (fun x e m => match x with
    | .x _ => none
    | .n => (match (resC Γ fn.results.toList).g e m.h with | some l => some (.ret (retS l) m) | none => none)
    | .r => (match (resC Γ fn.results.toList).g e m.h with | some l => some (.ret (retS l) m) | none => none)) else none⟩
   | none => ⟨fun _ _ _ => none⟩
  | none => ⟨fun _ _ _ => none⟩
def stepC (rec : Job → Option Rs) : Job → Option Rs
 | .code c e m => (Zh8 Γ c).g rec e m (fun x e m => some (.out x e m))
 | .loop b e m => (Zh8 Γ b).g rec e m (fun x e m => match x with
  | .n => rec (.loop b e m)
  | .r => some (.out .r e m)
  | .x i => some (.out (.x i) e m))
 | .call f args m => (funC Γ f).g rec args m
def evalC (n : Nat) : Job → Option Rs := Nat.rec (motive := fun _ => Job → Option Rs) (fun _ => none) (fun _ ih j => stepC Γ ih j) n
end
section
variable {P : Program} {Γ : Ctx} {Ω : Opq} {Gd : World → (Nat → Prop) → Prop}
def JobC (P : Program) (Ω : Opq) (Gd : World → (Nat → Prop) → Prop) : Job → Rs → Prop
 | .loop c e m,.out x e' m' => JobS P Ω Gd (.loop c e m) (.out x e' m')
 | .call f args m,.ret v m' => Zfj P Ω Gd f args m v m'
 | _,_ => True
theorem Zs5 (hΓ : Zd0 P Γ) (hX : Zhv P Ω Γ) (hmix : P.follows .mixedOrders = true) {rec : Job → Option Rs} (hrec : ∀ j r,rec j = some r → JobC P Ω Gd j r) : ∀ (c : Code) (N : Nat) (e : Envs) (m : Mem) (k : Ex → Envs → Mem → Option Rs) (r : Rs),Zc8 N c = true → (Zh8 Γ c).g rec e m k = some r →
  ∃ x e' m',JobS P Ω Gd (.code c e m) (.out x e' m') ∧ k x e' m' = some r := by
 have hcall : ∀ f args m v m',rec (.call f args m) = some (.ret v m') → Zfj P Ω Gd f args m v m' := fun f args m v m' h => hrec _ _ h
 intro c
 induction c with
 | skip =>
  intro N e m k r _ h
  exact ⟨.n,e,m,fun N _ _ W F _ rs n0 ρ0 σ w Q H hE => Zaw (hE σ w H),h⟩
 | label =>
  intro N e m k r _ h
  exact ⟨.n,e,m,fun N _ _ W F _ rs n0 ρ0 σ w Q H hE => Zr2 (hE σ w H),h⟩
 | region id ops draw =>
  intro N0 e m k r hok0 h
  simp only [Zh8] at h
  cases draw with
  | true =>
   simp only [Zc8,Bool.and_eq_true,cond_true] at hok0
   rw [cond_true] at h
   obtain ⟨e1,m1,h1,h2⟩ := drawC_some hok0.2 h
   refine ⟨.n,e1,m1,fun N hok hNt W F hG rs n0 ρ0 σ w Q H hE => ?_,h2⟩
   simp only [Zc8,Bool.and_eq_true,List.all_eq_true] at hok
   exact drawC_ok (id := id) (l := ops.toList) hG hX hΓ hcall hNt hmix hok.1 hok.2 h1 H hE
  | false =>
   rw [cond_false] at h
   obtain ⟨e1,m1,h1,h2⟩ := Zq4 Γ rec ops.toList e m h
   refine ⟨.n,e1,m1,fun N hok hNt W F hG rs n0 ρ0 σ w Q H hE => ?_,h2⟩
   simp only [Zc8,Bool.and_eq_true,List.all_eq_true] at hok
   exact Zaa (l := ops.toList) (Zpe hG hX hΓ hcall hNt ops.toList e e1 m m1 σ w hok.1 h1 H hE)
 | seq a b iha ihb =>
  intro N0 e m k r hok0 h
  simp only [Zc8,Bool.and_eq_true] at hok0
  simp only [Zh8] at h
  obtain ⟨x,e1,m1,h1,h2⟩ := iha N0 e m _ r hok0.1 h
  cases x with
  | n =>
   obtain ⟨x2,e2,m2,h3,h4⟩ := ihb N0 e1 m1 k r hok0.2 h2
   refine ⟨x2,e2,m2,fun N hok hNt W F hG rs n0 ρ0 σ w Q H hE => ?_,h4⟩
   simp only [Zc8,Bool.and_eq_true] at hok
   exact Zak (h1 N hok.1 hNt W F hG rs n0 ρ0 σ w _ H fun σ1 w1 H1 => Zae (h3 N hok.2 hNt W F hG rs n0 ρ0 σ1 w1 Q H1 hE))
  | r =>
   refine ⟨.r,e1,m1,fun N hok hNt W F hG rs n0 ρ0 σ w Q H hE => ?_,h2⟩
   simp only [Zc8,Bool.and_eq_true] at hok
   exact Zak (h1 N hok.1 hNt W F hG rs n0 ρ0 σ w _ H fun σ1 w1 H1 => Zat (hE σ1 w1 H1))
  | x i =>
   refine ⟨.x i,e1,m1,fun N hok hNt W F hG rs n0 ρ0 σ w Q H hE => ?_,h2⟩
   simp only [Zc8,Bool.and_eq_true] at hok
   exact Zak (h1 N hok.1 hNt W F hG rs n0 ρ0 σ w _ H fun σ1 w1 H1 => Zav (hE σ1 w1 H1))
 | cond c a b iha ihb =>
  intro N0 e m k r hok0 h
  simp only [Zc8,Bool.and_eq_true] at hok0
  simp only [Zh8,Zc6] at h
  split at h
  ·rename_i t hc
   cases t with
   | true =>
    rw [cond_true] at h
    obtain ⟨x,e1,m1,h1,h2⟩ := iha N0 e m k r hok0.1 h
    refine ⟨x,e1,m1,fun N hok hNt W F hG rs n0 ρ0 σ w Q H hE => ?_,h2⟩
    simp only [Zc8,Bool.and_eq_true] at hok
    have H0 := H
    obtain ⟨ρ,_,henv,_⟩ := H
    obtain ⟨u,hu,hx⟩ := Zbo henv hc
    cases hu
    exact Zam hx (h1 N hok.1 hNt W F hG rs n0 ρ0 σ w Q H0 hE)
   | false =>
    rw [cond_false] at h
    obtain ⟨x,e1,m1,h1,h2⟩ := ihb N0 e m k r hok0.2 h
    refine ⟨x,e1,m1,fun N hok hNt W F hG rs n0 ρ0 σ w Q H hE => ?_,h2⟩
    simp only [Zc8,Bool.and_eq_true] at hok
    have H0 := H
    obtain ⟨ρ,_,henv,_⟩ := H
    obtain ⟨u,hu,hx⟩ := Zbo henv hc
    cases hu
    exact Zaj hx (h1 N hok.2 hNt W F hG rs n0 ρ0 σ w Q H0 hE)
  ·cases h
 | block id b ih =>
  intro N0 e m k r hok0 h
  simp only [Zh8] at h
  obtain ⟨x,e1,m1,h1,h2⟩ := ih N0 e m _ r hok0 h
  cases x with
  | n => exact ⟨.n,e1,m1,fun N hok hNt W F hG rs n0 ρ0 σ w Q H hE => Zaq (h1 N hok hNt W F hG rs n0 ρ0 σ w _ H fun σ1 w1 H1 => Zbf (hE σ1 w1 H1)),h2⟩
  | r => exact ⟨.r,e1,m1,fun N hok hNt W F hG rs n0 ρ0 σ w Q H hE => Zaq (h1 N hok hNt W F hG rs n0 ρ0 σ w _ H fun σ1 w1 H1 => Zbh (hE σ1 w1 H1)),h2⟩
  | x i =>
   rcases Zcc h2 with ⟨hi,h3⟩ | ⟨hi,h3⟩
   ·have hi := Zce hi
    subst hi
    exact ⟨.n,e1,m1,fun N hok hNt W F hG rs n0 ρ0 σ w Q H hE => Zaq (h1 N hok hNt W F hG rs n0 ρ0 σ w _ H fun σ1 w1 H1 => Zaz (hE σ1 w1 H1)),h3⟩
   ·have hne : (i == id) = false := by rw [nbeq] at hi; simpa using hi
    exact ⟨.x i,e1,m1,fun N hok hNt W F hG rs n0 ρ0 σ w Q H hE => Zaq (h1 N hok hNt W F hG rs n0 ρ0 σ w _ H fun σ1 w1 H1 => Zku hne (hE σ1 w1 H1)),h3⟩
 | loop b ih =>
  intro N0 e m k r hok0 h
  simp only [Zh8] at h
  split at h
  ·rename_i x e1 m1 h1
   obtain ⟨n,hn⟩ := hrec _ _ h1
   refine ⟨x,e1,m1,fun N hok hNt W F hG rs n0 ρ0 σ w Q H hE => ?_,h⟩
   refine ⟨fun a ha => Zgq (fun z a w => LoopI P N b Q z a w) (fun z => z) n (hn N hok hNt W F hG rs n0 ρ0 σ w Q a H hE ha) fun z a w hz => ?_⟩
   cases z with
   | zero => exact hz.elim
   | succ z =>
    refine Zhw (fun e a w he => ?_) hz
    cases e <;> first | exact he | exact ⟨z,he,Nat.lt_succ_self _⟩
  ·cases h
 | scope b ih =>
  intro N0 e m k r hok0 h
  obtain ⟨x,e1,m1,h1,h2⟩ := ih N0 e m k r hok0 h
  refine ⟨x,e1,m1,fun N hok hNt W F hG rs n0 ρ0 σ w Q H hE => ?_,h2⟩
  refine Zr0 rfl (h1 N hok hNt W F hG rs n0 ρ0 σ w _ H fun σ1 w1 H1 => Zek (fun l => ?_) (hE σ1 w1 H1))
  cases x <;> simp [Ex.exit]
 | exit id =>
  intro N e m k r _ h
  exact ⟨.x id,e,m,fun N _ _ W F _ rs n0 ρ0 σ w Q H hE => Zb0 (hE σ w H),h⟩
 | ret =>
  intro N e m k r _ h
  exact ⟨.r,e,m,fun N _ _ W F _ rs n0 ρ0 σ w Q H hE => Za2 (hE σ w H),h⟩
 | _ => intro N e m k r hok h; first | (simp only [Zc8] at hok; cases hok) | cases h
theorem stepC_ok (hΓ : Zd0 P Γ) (hF : CtxFn P Γ) (hN : CtxNat P Ω Gd Γ) (hX : Zhv P Ω Γ) (hmix : P.follows .mixedOrders = true) {rec : Job → Option Rs} (hrec : ∀ j r,rec j = some r → JobC P Ω Gd j r) : ∀ j r,stepC Γ rec j = some r → JobC P Ω Gd j r := by
 intro j r h
 cases j with
 | code c e m => cases r <;> trivial
 | loop b e m =>
  simp only [stepC] at h
  by_cases hc : ∃ N,Zc8 N b = true
  ·obtain ⟨N0,hc⟩ := hc
   obtain ⟨x,e1,m1,h1,h2⟩ := Zs5 hΓ hX hmix hrec b N0 e m _ r hc h
   cases x with
   | n =>
    have h3 := hrec _ _ h2
    cases r with
    | ret v m' => trivial
    | out x e' m' =>
     obtain ⟨k,hk⟩ := h3
     refine ⟨k + 1,fun N hok hNt W F hG rs n0 ρ0 σ w Q a H hE ha => ?_⟩
     exact (h1 N hok hNt W F hG rs n0 ρ0 σ w (Exit.then (LoopI P N b Q k) Q) H (fun σ1 w1 H1 => ⟨fun a1 ha1 => hk N hok hNt W F hG rs n0 ρ0 σ1 w1 Q a1 H1 hE ha1⟩)).run a ha
   | r =>
    cases h2
    refine ⟨1,fun N hok hNt W F hG rs n0 ρ0 σ w Q a H hE ha => ?_⟩
    exact (h1 N hok hNt W F hG rs n0 ρ0 σ w (Exit.then (LoopI P N b Q 0) Q) H (fun σ1 w1 H1 => Zat (hE σ1 w1 H1))).run a ha
   | x i =>
    cases h2
    refine ⟨1,fun N hok hNt W F hG rs n0 ρ0 σ w Q a H hE ha => ?_⟩
    exact (h1 N hok hNt W F hG rs n0 ρ0 σ w (Exit.then (LoopI P N b Q 0) Q) H (fun σ1 w1 H1 => Zav (hE σ1 w1 H1))).run a ha
  ·cases r with
   | ret v m' => trivial
   | out x e' m' => exact ⟨0,fun N hok => absurd ⟨N,hok⟩ hc⟩
 | call f args m =>
  simp only [stepC] at h
  unfold funC at h
  split at h
  ·rename_i nf hnf
   simp only at h
   split at h
   ·rename_i v m' hr
    cases h
    exact hN f nf hnf args m v m' hr
   ·cases h
  ·split at h
   ·rename_i fn hfn
    split at h
    ·rename_i body hbody
     simp only at h
     replace h := Zar h; obtain ⟨hle,h⟩ := h
     obtain ⟨hf,hFun,hNt,hcode⟩ := hF f fn hfn
     obtain ⟨x,e1,m1,h1,h2⟩ := Zs5 hΓ hX hmix hrec body fn.ntmps _ m _ r (hcode body hbody) h
     have fin : ∀ l,(x = .n ∨ x = .r) → Zpf Γ e1 m1.h fn.results.toList = some l → Zfj P Ω Gd f args m (retS l) m1 := by
      intro l hx hl
      refine ⟨hFun,fun W F hG rs ρ vs w hv hb ht hS => ?_⟩
      have hlen := RepL.length hv
      have hle' := Zcd hle
      refine Zas hf hbody rfl (by rw [hlen]; exact hle) (h1 fn.ntmps (hcode body hbody) hNt W F hG rs m.n ρ (enum 0 vs) w _ ⟨ρ,Rho.ext.rfl,enum_env hv (by omega),hb,ht,hS⟩ fun σ1 w1 H1 => ⟨fun a ha => ?_⟩)
      obtain ⟨ρ',hext,henv,hb',ht',hS'⟩ := H1
      obtain ⟨v,hv1,hrun⟩ := results_ok hΓ henv (St.heapRd hS') ha hl
      have := Znt (P := P) (fn := fn) (R := Ret fun u w' => ∃ ρ',ρ.ext m.n m1.n ρ' ∧ ρ'.below m1.n ∧ m1.n ≤ top ∧ Rep ρ' (retS l) u ∧ St W F (res Ω ρ' m1.h ++ rs) w') ha.defers hrun (Ret.mk ⟨ρ',hext,hb',ht',hv1,hS'⟩)
      rcases hx with rfl | rfl
      ·exact this.2
      ·exact this.1
     cases x with
     | x i => cases h2
     | n =>
      simp only [Zq1] at h2
      split at h2
      ·rename_i l hl
       cases h2
       exact fin l (.inl rfl) hl
      ·cases h2
     | r =>
      simp only [Zq1] at h2
      split at h2
      ·rename_i l hl
       cases h2
       exact fin l (.inr rfl) hl
      ·cases h2
    ·cases h
   ·cases h
theorem Zsy (hΓ : Zd0 P Γ) (hF : CtxFn P Γ) (hN : CtxNat P Ω Gd Γ) (hX : Zhv P Ω Γ) (hmix : P.follows .mixedOrders = true) : ∀ n j r,evalC Γ n j = some r → JobC P Ω Gd j r
 | 0,_,_,h => by cases h
 | n + 1,j,r,h => stepC_ok hΓ hF hN hX hmix (fun j r h => Zsy hΓ hF hN hX hmix n j r h) j r h
end
end
end Cr.Cl
