/-
  Closed runs,15: a statement that draws its order,evaluated once ('draw_ok'). Over any program.
  Closed runs,16: code,loops,calls: what the evaluator finds is what the run does ('evalN_ok'). Over any program.
  Closed runs,17: the evaluator in stages. What hangs on the code alone stands ahead of what hangs on the state (in structures' fields),so that the kernel finds it once. It answers as the evaluator does. No program is in sight.
  Closed runs,18: a statement that draws its order,in stages: where its parts' kinds and order (found once) show that one order serves for all. No program is in sight.
  Closed runs,19: code,loops,calls,in stages: what the staged evaluator finds is what the run does ('evalC_ok'). Over any program.
-/
import Derived.Test.YteonaddammjopaaGreatDoorChl7
namespace Cr.Cl
open Go Go.MapKept
set_option maxRecDepth 4000
theorem edge_has {ms : List Nat} : ∀ {es : List Edge} {e : Edge},e ∈ es → Region.binds .any e = true → bit (Zdn ms es) e.on = true
 | x :: r,e,h,hb => by
  simp only [Zdn]
  rcases List.mem_cons.1 h with rfl | h
  ·rw [hb,cond_true,bit_lor,bit_lor]
   have : bit (2 ^ e.on) e.on = true := by simp [bit]
   rw [this]; rfl
  ·have ih := edge_has (ms := ms) h hb
   cases Region.binds .any x with
   | false => exact ih
   | true => rw [cond_true,bit_lor,ih,Bool.or_true]
section
variable {P : Program} {Γ : Ctx} {Ω : Opq} {N : Nat} {W : World} {F : Nat → Prop} {rs : List Res} {rec : Job → Option Rs} {l : List Oper} {e0 : Envs} {n0 : Nat} {ρ0 : Rho} {Gd : World → (Nat → Prop) → Prop}
theorem putAll_ok {ρ : Rho} {σ : Env} : ∀ (r : List Oper) (xs : List Ent) (e : Envs),(∀ (k : Nat) (o : Oper) (x : Ent) (d : Nat),r[k]? = some o → xs[k]? = some x → o.dst = some d → d < top ∧ ∃ u,Rep ρ x.v u ∧ look σ d = some u) → xs.length = r.length →
  (∀ t s,e.get t = some s → (∀ (k : Nat) (o : Oper),r[k]? = some o → o.dst ≠ some t) → ∃ u,Rep ρ s u ∧ look σ t = some u) → EnvR ρ (Zdk r xs e) σ
 | [],xs,e,_,hl,h => by
  have : xs = [] := List.eq_nil_of_length_eq_zero (by simpa using hl)
  subst this
  exact fun n s hs => h n s hs fun k o hk => by simp at hk
 | o :: r,[],e,_,hl,_ => by simp at hl
 | o :: r,x :: xs,e,hd,hl,h => by
  simp only [Zdk]
  refine putAll_ok r xs _ (fun k o' x' d h1 h2 h3 => hd (k + 1) o' x' d (by simpa using h1) (by simpa using h2) h3) (by simpa using hl) fun t s hs hno => ?_
  cases hod : o.dst with
  | none =>
   rw [hod] at hs
   refine h t s hs fun k o' hk => ?_
   cases k with
   | zero => simp at hk; subst hk; rw [hod]; simp
   | succ k => exact hno k o' (by simpa using hk)
  | some d =>
   obtain ⟨hdt,u,hu,hlk⟩ := hd 0 o x d rfl rfl hod
   rw [hod] at hs
   have hs' : (e.set d x.v).get t = some s := hs
   rw [Envs.get_set x.v t hdt] at hs'
   split at hs'
   ·rename_i q; subst q; cases hs'; exact ⟨u,hu,hlk⟩
   ·rename_i q
    refine h t s hs' fun k o' hk => ?_
    cases k with
    | zero => simp at hk; subst hk; rw [hod]; intro q2; cases q2; exact q rfl
    | succ k => exact hno k o' (by simpa using hk)
theorem draw_core (hG : Gd W F) (hX : CtxExt P Ω Γ) (hΓ : Zdv P Γ) (hrec : ∀ f args m v m',rec (.call f args m) = some (.ret v m') → Zff P Ω Gd f args m v m') (hNt : N ≤ top) (hmix : P.follows .mixedOrders = true) {id : Nat} (hok : ∀ o ∈ l,Zfg N o = true) (hd : Zch l = true) {m0 : Mem} {st : DSt} {h' : Heap}
  (htop : m0.n + l.length ≤ top) (hloop : Zed Γ rec l (Zbj l) m0.n e0 l 0 ⟨[],[(0,⟨m0.h,m0.n + l.length⟩)],[],0,⟨m0.h,m0.n + l.length⟩⟩ = some st) (hreads : ReadsP Γ l m0.n e0 st) (hadd : addP m0.n (fun k => !bit st.abs k) st.ents 0 st.cur.h = some h')
  {σ : Env} {w : World} (H : StE Ω W F rs n0 ρ0 e0 m0 σ w) {Q : Exit → Act → World → Prop} (hE : ∀ σ w,StE Ω W F rs n0 ρ0 (Zdk l st.ents e0) ⟨h',st.cur.n⟩ σ w → E Q .normal N md0 σ w) : C P (.region id l.toArray true) Q N md0 σ w := by
 obtain ⟨ρ,hext,henv,hbel,_,hS⟩ := H
 have hwf0 : Wf (Zbj l) ⟨[],[(0,⟨m0.h,m0.n + l.length⟩)],[],0,⟨m0.h,m0.n + l.length⟩⟩ := by
  refine ⟨rfl,rfl,fun k y hk => by simp at hk,fun k k' y y' _ hk => by simp at hk,fun j a m hj k hk => ?_⟩
  cases j with
  | zero => simp at hj; obtain ⟨rfl,_⟩ := hj; rw [bit_zero] at hk; cases hk
  | succ j => simp at hj
 obtain ⟨hle,hwf,hlen,hfact⟩ := drawLoop_ok l 0 _ st hloop rfl hwf0
 simp only [Nat.zero_add] at hlen hfact
 have hmem0 : st.mems[0]? = some (0,⟨m0.h,m0.n + l.length⟩) := Zdi hle.mems rfl
 refine C_plain rfl fun a ha => wp_region_any hmix ?_
 refine wpAny_weaken (Q := onlyK (Q .normal)) (fun e a w hq => by cases e <;> first | exact hq | exact hq.elim) _ _ _ _ ?_
 refine wpAny_inv (fun listed a w => ∃ j,InvD Ω W F rs N l m0.n e0 st n0 ρ0 listed j a w) ?_ ?_ ?_ _ _ _ _ ?_ ?_
 ·intro listed a w ⟨j,HI⟩ i hi
  exact drawStep hG hX hext.2.2 hΓ hrec hok hd hwf hlen hfact hreads HI hi
 ·intro listed a w ⟨j,HI⟩ hr
  have hall : ∀ n i,i < n → i < l.length → listed.getD i false = true := by
   intro n
   induction n with
   | zero => intro i h; omega
   | succ n ih =>
    intro i hi hil
    cases hq : listed.getD i false with
    | true => rfl
    | false =>
     exfalso
     have ho : l[i]? = some l[i] := List.getElem?_eq_getElem hil
     have hmem : i ∈ Region.ready .any l.toArray listed := by
      refine mem_ready.2 ⟨?_,l[i],by simp [ho],fun e he hb => ?_⟩
      ·rw [Array.getD_eq_getD_getElem?,Array.getElem?_eq_getElem (by rw [HI.size]; exact hil)] at hq ⊢
       simpa using hq
      ·have h1 := (masks_spec l).2 i _ ho
       have h2 : bit (mk (Zbj l) i) e.on = true := by rw [mk,h1,Option.getD_some]; exact edge_has (by simpa using he) hb
       have h3 : e.on < i := by
        rcases Nat.lt_or_ge e.on i with q | q
        ·exact q
        ·rw [bit_high (hfact i _ ho).1 q] at h2; cases h2
       exact ih e.on (by omega) (by omega)
     rw [hr] at hmem; cases hmem
  have hall' : ∀ i,i < l.length → listed.getD i false = true := fun i hi => hall (i + 1) i (Nat.lt_succ_self _) hi
  obtain ⟨ρ1,σ1,abs,m,hmj,ha1,hext1,henv1,hbel1,hfree1,htop1,hbase1,hS1⟩ := HI.run
  have hjl : j = st.mains.length := by
   have h1 : j < st.mems.length := (List.getElem?_eq_some_iff.1 hmj).1
   rw [hwf.len] at h1
   rcases Nat.lt_or_ge j st.mains.length with q | q
   ·exfalso
    have hy := List.getElem?_eq_getElem q
    obtain ⟨z,h2,_⟩ := hwf.main j _ hy
    have hyl : st.mains[j] < l.length := by rw [← hlen]; exact (List.getElem?_eq_some_iff.1 h2).1
    have := (HI.mains j _ hy).1 (hall' _ hyl)
    omega
   ·omega
  subst hjl
  rw [hwf.cur] at hmj
  cases hmj
  refine (hE σ1 w ⟨ρ1,hext1,?_,hbel1,htop1,?_⟩).run a ha1
  ·refine putAll_ok l st.ents e0 (fun k o x d h1 h2 h3 => ⟨?_,?_⟩) hlen fun t s hs hno => ?_
   ·have := hok o (List.mem_of_getElem? h1)
    simp only [Zfg,h3,Bool.and_eq_true] at this
    have := Zbl this.1
    omega
   ·exact henv1.done k o x d (hall' k (List.getElem?_eq_some_iff.1 h1).1) h1 h3 h2
   ·exact henv1.old t s hs fun k o _ hk => hno k o hk
  ·have e1 : Zct m0.n (left listed st.abs) st.ents 0 = Zct m0.n (fun k => !bit st.abs k) st.ents 0 := by
    refine Ze4 m0.n st.ents 0 fun n x ob mk' h1 _ => ?_
    have hn : n < l.length := by rw [← hlen]; exact (List.getElem?_eq_some_iff.1 h1).1
    rw [Nat.zero_add]
    unfold left
    rw [hall' n hn,Bool.true_and]
   rw [e1] at hS1
   exact St.permH (addP_perm hadd).symm hS1
 ·intro listed a w ⟨j,HI⟩
  simpa using HI.size
 ·exact Nat.le_trans List.countP_le_length (by simp)
 ·have hnone : ∀ k,(Array.replicate l.toArray.size false).getD k false = false := fun k => getD_replicate_false ..
  refine ⟨0,by simp,fun j oj _ hl => (by rw [getD_replicate_false] at hl; cases hl),fun k y _ => ⟨fun q => (by rw [hnone] at q; cases q),fun q => by omega⟩,ρ,σ,0,⟨m0.h,m0.n + l.length⟩,hmem0,ha,⟨hext.1,hext.2.1,by have := hext.2.2; show n0 ≤ m0.n + l.length; omega⟩,⟨fun k o x d hk => (by rw [hnone] at hk; cases hk),fun t s hs _ => henv t s hs⟩,fun o ho => hbel o (by have ho' : m0.n + l.length ≤ o := ho; omega),fun k x ob mk' _ _ _ => hbel _ (by omega),htop,Nat.le_refl _,?_⟩
  have e0 : Zct m0.n (left (Array.replicate l.toArray.size false) 0) st.ents 0 = [] := privs_none m0.n st.ents 0 fun n => by unfold left; rw [hnone]; rfl
  rw [e0,List.nil_append]
  exact hS.drew
theorem draw_ok (hG : Gd W F) (hX : CtxExt P Ω Γ) (hΓ : Zdv P Γ) (hrec : ∀ f args m v m',rec (.call f args m) = some (.ret v m') → Zff P Ω Gd f args m v m') (hNt : N ≤ top) (hmix : P.follows .mixedOrders = true) {id : Nat} (hok : ∀ o ∈ l,Zfg N o = true) (hd : Zch l = true) {e' : Envs} {m0 m' : Mem}
  (h : drawEval Γ rec l e0 m0 = some (e',m')) {σ : Env} {w : World} (H : StE Ω W F rs n0 ρ0 e0 m0 σ w) {Q : Exit → Act → World → Prop} (hE : ∀ σ w,StE Ω W F rs n0 ρ0 e' m' σ w → E Q .normal N md0 σ w) : C P (.region id l.toArray true) Q N md0 σ w := by
 unfold drawEval at h
 replace h := Zas h; obtain ⟨htop,h⟩ := h
 have htop := Zca htop
 split at h
 ·rename_i st hloop
  replace h := Zas h; obtain ⟨hreads,h⟩ := h
  split at h
  ·rename_i h' hadd
   cases h
   exact draw_core hG hX hΓ hrec hNt hmix hok hd htop hloop (readsP_of hreads) hadd H hE
  ·cases h
 ·cases h
end
end Cr.Cl
namespace Cr.Cl
noncomputable section
open Go Go.MapKept
set_option maxRecDepth 4000
def enumE : Nat → List SV → Envs → Envs
 | _,[],e => e
 | n,v :: l,e => enumE (n + 1) l (e.set n v)
section
variable (Γ : Ctx)
def resS (e : Envs) (h : Heap) : ResultVar → Option SV
 | .tmp t => e.get t
 | .cell a t => match e.get a with
  | some (.p o off) => loadS Γ h t o off
  | _ => none
def resSs (e : Envs) (h : Heap) : List ResultVar → Option (List SV)
 | [] => some []
 | r :: l => match resS Γ e h r with
  | some a => match resSs e h l with | some b => some (a :: b) | none => none
  | none => none
def retS : List SV → SV
 | [v] => v
 | l => .tup l
end
def Zc5 (N : Nat) : Code → Bool
 | .skip => true
 | .label _ => true
 | .region _ ops draw => ops.toList.all (Zfg N) && (bif draw then Zch ops.toList else true)
 | .seq a b => Zc5 N a && Zc5 N b
 | .cond _ a b => Zc5 N a && Zc5 N b
 | .block _ b => Zc5 N b
 | .loop b => Zc5 N b
 | .scope b => Zc5 N b
 | .exit _ => true
 | .ret => true
 | _ => false
def CtxFn (P : Program) (Γ : Ctx) : Prop := ∀ g fn,Γ.fn.get g = some fn → P.funcs[g]? = some fn ∧ Fun P g ∧ fn.ntmps ≤ top ∧ ∀ body,fn.body = some body → Zc5 fn.ntmps body = true
def CtxNat (P : Program) (Ω : Opq) (Gd : World → (Nat → Prop) → Prop) (Γ : Ctx) : Prop := ∀ g nf,Γ.nat.get g = some nf → ∀ args m v m',nf args m = some (v,m') → Zff P Ω Gd g args m v m'
def LoopI (P : Program) (N : Nat) (b : Code) (Q : Exit → Act → World → Prop) : Nat → Act → World → Prop
 | 0,_,_ => False
 | k + 1,a,w => b.wpIn (Fc md0) 0 P (Exit.then (LoopI P N b Q k) Q) a w
def JobS (P : Program) (Ω : Opq) (Gd : World → (Nat → Prop) → Prop) : Job → Rs → Prop
 | .code c e m,.out x e' m' => ∀ N,Zc5 N c = true → N ≤ top → ∀ (W : World) (F : Nat → Prop),Gd W F → ∀ (rs : List Res) (n0 : Nat) (ρ0 : Rho) (σ : Env) (w : World) (Q : Exit → Act → World → Prop),StE Ω W F rs n0 ρ0 e m σ w → (∀ σ w,StE Ω W F rs n0 ρ0 e' m' σ w → E Q x.exit N md0 σ w) → C P c Q N md0 σ w
 | .loop c e m,.out x e' m' => ∃ k,∀ N,Zc5 N c = true → N ≤ top → ∀ (W : World) (F : Nat → Prop),Gd W F → ∀ (rs : List Res) (n0 : Nat) (ρ0 : Rho) (σ : Env) (w : World) (Q : Exit → Act → World → Prop) (a : Act),StE Ω W F rs n0 ρ0 e m σ w → (∀ σ w,StE Ω W F rs n0 ρ0 e' m' σ w → E Q x.exit N md0 σ w) → Fr σ N md0 a → LoopI P N c Q k a w
 | .call f args m,.ret v m' => Zff P Ω Gd f args m v m'
 | _,_ => False
section
variable {P : Program} {Γ : Ctx} {Ω : Opq} {Gd : World → (Nat → Prop) → Prop}
theorem enumE_get : ∀ (args : List SV) (n : Nat) (e : Envs) (k : Nat),n + args.length ≤ top → (enumE n args e).get k = if n ≤ k ∧ k < n + args.length then args[k - n]? else e.get k
 | [],n,e,k,_ => by simp [enumE]; intro h1 h2; omega
 | v :: l,n,e,k,h => by
  simp only [List.length_cons] at h
  rw [enumE,enumE_get l (n + 1) (e.set n v) k (by omega),Envs.get_set v k (by omega)]
  by_cases h1 : k = n
  ·subst h1; simp; intro h1; omega
  ·by_cases h2 : n + 1 ≤ k ∧ k < n + 1 + l.length
   ·rw [if_pos h2,if_pos (by simp only [List.length_cons]; omega),show k - n = (k - (n + 1)) + 1 by omega]
    simp
   ·rw [if_neg h2,if_neg h1,if_neg (by simp only [List.length_cons]; omega)]
theorem look_enum_get : ∀ (l : List Value) (n k : Nat) (v : Value),n ≤ k → l[k - n]? = some v → look (enum n l) k = some v
 | [],n,k,v,_,h => by simp at h
 | u :: l,n,k,v,hk,h => by
  by_cases e : n = k
  ·subst e; simp at h; subst h; exact Zc6 _ _ _
  ·rw [enum,Zdd _ _ e]
   refine look_enum_get l (n + 1) k v (by omega) ?_
   rw [show k - n = (k - (n + 1)) + 1 by omega] at h
   simpa using h
theorem enum_env {ρ : Rho} {args : List SV} {vs : List Value} (h : RepL ρ args vs) (ht : args.length ≤ top) : EnvR ρ (enumE 0 args .nil) (enum 0 vs) := fun k s hs => by
 rw [enumE_get args 0 .nil k (by omega)] at hs
 split at hs
 ·rename_i hk
  obtain ⟨v,h1,h2⟩ := RepL.get h hs
  exact ⟨v,h2,look_enum_get vs 0 k v (Nat.zero_le _) h1⟩
 ·rw [Envs.get_nil] at hs; cases hs
theorem resS_ok (hΓ : Zdv P Γ) {ρ : Rho} {e : Envs} {σ : Env} {h : Heap} {w : World} (he : EnvR ρ e σ) (hR : HeapRd Ω ρ h w) {r : ResultVar} {s : SV} (hs : resS Γ e h r = some s) : ∃ v,Rep ρ s v ∧ Rv P σ w r v := by
 unfold resS at hs
 split at hs
 ·rename_i t
  obtain ⟨v,h1,h2⟩ := he t s hs
  exact ⟨v,h1,h2⟩
 ·rename_i a t
  split at hs
  ·rename_i o off hg
   obtain ⟨u,⟨L,hL,rfl⟩,hlk⟩ := he a _ hg
   obtain ⟨L',v,q1,q2,q3⟩ := loadS_ok hΓ hR hs
   rw [hL] at q1; cases q1
   exact ⟨v,q2,_,hlk,q3⟩
  ·cases hs
theorem resSs_ok (hΓ : Zdv P Γ) {ρ : Rho} {e : Envs} {σ : Env} {h : Heap} {w : World} (he : EnvR ρ e σ) (hR : HeapRd Ω ρ h w) {N : Nat} {ds : Md} {a : Act} (ha : Fr σ N ds a) : ∀ (rs : List ResultVar) (l : List SV),resSs Γ e h rs = some l →
  ∃ vs,RepL ρ l vs ∧ (rs.mapM (rvSem a.tmps) : Sem (List Value)).run P w = .ok vs w
 | [],l,hs => by
  simp only [resSs,Option.some.injEq] at hs; subst hs
  exact ⟨[],rfl,by simp⟩
 | r :: rs,l,hs => by
  simp only [resSs] at hs
  split at hs
  ·rename_i s1 h1
   split at hs
   ·rename_i l1 h2
    cases hs
    obtain ⟨v,q1,q2⟩ := resS_ok hΓ he hR h1
    obtain ⟨vs,q3,q4⟩ := resSs_ok hΓ he hR ha rs l1 h2
    refine ⟨v :: vs,RepL.cons q1 q3,?_⟩
    have q5 := q2.run ha
    rw [List.mapM_cons,Sem.run_bind,q5]
    simp only [Result.andThen_ok]
    rw [Sem.run_bind,q4]
    rfl
   ·cases hs
  ·cases hs
theorem results_ok (hΓ : Zdv P Γ) {ρ : Rho} {e : Envs} {σ : Env} {h : Heap} {w : World} (he : EnvR ρ e σ) (hR : HeapRd Ω ρ h w) {N : Nat} {ds : Md} {a : Act} (ha : Fr σ N ds a) {fn : Func} {l : List SV} (hs : resSs Γ e h fn.results.toList = some l) :
  ∃ v,Rep ρ (retS l) v ∧ (results fn a.tmps).run P w = .ok v w := by
 obtain ⟨vs,h1,h2⟩ := resSs_ok (P := P) hΓ he hR ha _ l hs
 have h3 : (fn.results.mapM (rvSem a.tmps) : Sem (Array Value)).run P w = .ok vs.toArray w := by
  have : fn.results.mapM (rvSem a.tmps) = (do pure (← fn.results.toList.mapM (rvSem a.tmps)).toArray : Sem (Array Value)) := by
   have := List.mapM_toArray (m := Sem) (f := rvSem a.tmps) (l := fn.results.toList)
   simp only [Array.toArray_toList] at this
   rw [this]; rfl
  rw [this,Sem.run_bind,h2]; rfl
 rw [results_eq,Sem.run_bind,h3]
 simp only [Result.andThen_ok]
 match l,vs,h1 with
 | [],vs,h1 => cases h1; exact ⟨.tuple #[],⟨[],rfl,rfl⟩,rfl⟩
 | [s],vs,h1 =>
  obtain ⟨v,l',q1,q2,rfl⟩ := h1
  cases q2
  exact ⟨v,q1,rfl⟩
 | s :: s2 :: l,vs,h1 =>
  obtain ⟨v,l',q1,⟨v2,l2,q2,q3,rfl⟩,rfl⟩ := h1
  exact ⟨.tuple (v :: v2 :: l2).toArray,⟨_,RepL.cons q1 (RepL.cons q2 q3),rfl⟩,by simp⟩
end
end
end Cr.Cl
namespace Cr.Cl
open Go Go.MapKept
set_option maxRecDepth 4000
noncomputable section
structure SelF where
 g : {α : Type} → N16 α → α
structure PutF where
 g : {α : Type} → α → N16 α → N16 α
structure GF where
 g : Envs → Option SV
structure SF where
 g : SV → Envs → Envs
structure LF where
 g : Envs → Option (List SV)
structure BF where
 g : SV → SV → Option SV
structure RF where
 g : Envs → Heap → Option SV
structure HF where
 g : (Job → Option Rs) → Envs → Mem → Option (SV × Mem)
structure KF where
 g : (Job → Option Rs) → Envs → Mem → (Envs → Mem → Option Rs) → Option Rs
structure CF where
 g : (Job → Option Rs) → Envs → Mem → (Ex → Envs → Mem → Option Rs) → Option Rs
structure FF where
 g : (Job → Option Rs) → List SV → Mem → Option Rs
def selC : I16 → SelF
 | .i0 => ⟨fun e => e.a0⟩
 | .i1 => ⟨fun e => e.a1⟩
 | .i2 => ⟨fun e => e.a2⟩
 | .i3 => ⟨fun e => e.a3⟩
 | .i4 => ⟨fun e => e.a4⟩
 | .i5 => ⟨fun e => e.a5⟩
 | .i6 => ⟨fun e => e.a6⟩
 | .i7 => ⟨fun e => e.a7⟩
 | .i8 => ⟨fun e => e.a8⟩
 | .i9 => ⟨fun e => e.a9⟩
 | .i10 => ⟨fun e => e.a10⟩
 | .i11 => ⟨fun e => e.a11⟩
 | .i12 => ⟨fun e => e.a12⟩
 | .i13 => ⟨fun e => e.a13⟩
 | .i14 => ⟨fun e => e.a14⟩
 | .i15 => ⟨fun e => e.a15⟩
def putC : I16 → PutF
 | .i0 => ⟨fun {α} x e => N16.rec (motive := fun _ => N16 α) (fun _ x1 x2 x3 x4 x5 x6 x7 x8 x9 x10 x11 x12 x13 x14 x15 => ⟨x,x1,x2,x3,x4,x5,x6,x7,x8,x9,x10,x11,x12,x13,x14,x15⟩) e⟩
 | .i1 => ⟨fun {α} x e => N16.rec (motive := fun _ => N16 α) (fun x0 _ x2 x3 x4 x5 x6 x7 x8 x9 x10 x11 x12 x13 x14 x15 => ⟨x0,x,x2,x3,x4,x5,x6,x7,x8,x9,x10,x11,x12,x13,x14,x15⟩) e⟩
 | .i2 => ⟨fun {α} x e => N16.rec (motive := fun _ => N16 α) (fun x0 x1 _ x3 x4 x5 x6 x7 x8 x9 x10 x11 x12 x13 x14 x15 => ⟨x0,x1,x,x3,x4,x5,x6,x7,x8,x9,x10,x11,x12,x13,x14,x15⟩) e⟩
 | .i3 => ⟨fun {α} x e => N16.rec (motive := fun _ => N16 α) (fun x0 x1 x2 _ x4 x5 x6 x7 x8 x9 x10 x11 x12 x13 x14 x15 => ⟨x0,x1,x2,x,x4,x5,x6,x7,x8,x9,x10,x11,x12,x13,x14,x15⟩) e⟩
 | .i4 => ⟨fun {α} x e => N16.rec (motive := fun _ => N16 α) (fun x0 x1 x2 x3 _ x5 x6 x7 x8 x9 x10 x11 x12 x13 x14 x15 => ⟨x0,x1,x2,x3,x,x5,x6,x7,x8,x9,x10,x11,x12,x13,x14,x15⟩) e⟩
 | .i5 => ⟨fun {α} x e => N16.rec (motive := fun _ => N16 α) (fun x0 x1 x2 x3 x4 _ x6 x7 x8 x9 x10 x11 x12 x13 x14 x15 => ⟨x0,x1,x2,x3,x4,x,x6,x7,x8,x9,x10,x11,x12,x13,x14,x15⟩) e⟩
 | .i6 => ⟨fun {α} x e => N16.rec (motive := fun _ => N16 α) (fun x0 x1 x2 x3 x4 x5 _ x7 x8 x9 x10 x11 x12 x13 x14 x15 => ⟨x0,x1,x2,x3,x4,x5,x,x7,x8,x9,x10,x11,x12,x13,x14,x15⟩) e⟩
 | .i7 => ⟨fun {α} x e => N16.rec (motive := fun _ => N16 α) (fun x0 x1 x2 x3 x4 x5 x6 _ x8 x9 x10 x11 x12 x13 x14 x15 => ⟨x0,x1,x2,x3,x4,x5,x6,x,x8,x9,x10,x11,x12,x13,x14,x15⟩) e⟩
 | .i8 => ⟨fun {α} x e => N16.rec (motive := fun _ => N16 α) (fun x0 x1 x2 x3 x4 x5 x6 x7 _ x9 x10 x11 x12 x13 x14 x15 => ⟨x0,x1,x2,x3,x4,x5,x6,x7,x,x9,x10,x11,x12,x13,x14,x15⟩) e⟩
 | .i9 => ⟨fun {α} x e => N16.rec (motive := fun _ => N16 α) (fun x0 x1 x2 x3 x4 x5 x6 x7 x8 _ x10 x11 x12 x13 x14 x15 => ⟨x0,x1,x2,x3,x4,x5,x6,x7,x8,x,x10,x11,x12,x13,x14,x15⟩) e⟩
 | .i10 => ⟨fun {α} x e => N16.rec (motive := fun _ => N16 α) (fun x0 x1 x2 x3 x4 x5 x6 x7 x8 x9 _ x11 x12 x13 x14 x15 => ⟨x0,x1,x2,x3,x4,x5,x6,x7,x8,x9,x,x11,x12,x13,x14,x15⟩) e⟩
 | .i11 => ⟨fun {α} x e => N16.rec (motive := fun _ => N16 α) (fun x0 x1 x2 x3 x4 x5 x6 x7 x8 x9 x10 _ x12 x13 x14 x15 => ⟨x0,x1,x2,x3,x4,x5,x6,x7,x8,x9,x10,x,x12,x13,x14,x15⟩) e⟩
 | .i12 => ⟨fun {α} x e => N16.rec (motive := fun _ => N16 α) (fun x0 x1 x2 x3 x4 x5 x6 x7 x8 x9 x10 x11 _ x13 x14 x15 => ⟨x0,x1,x2,x3,x4,x5,x6,x7,x8,x9,x10,x11,x,x13,x14,x15⟩) e⟩
 | .i13 => ⟨fun {α} x e => N16.rec (motive := fun _ => N16 α) (fun x0 x1 x2 x3 x4 x5 x6 x7 x8 x9 x10 x11 x12 _ x14 x15 => ⟨x0,x1,x2,x3,x4,x5,x6,x7,x8,x9,x10,x11,x12,x,x14,x15⟩) e⟩
 | .i14 => ⟨fun {α} x e => N16.rec (motive := fun _ => N16 α) (fun x0 x1 x2 x3 x4 x5 x6 x7 x8 x9 x10 x11 x12 x13 _ x15 => ⟨x0,x1,x2,x3,x4,x5,x6,x7,x8,x9,x10,x11,x12,x13,x,x15⟩) e⟩
 | .i15 => ⟨fun {α} x e => N16.rec (motive := fun _ => N16 α) (fun x0 x1 x2 x3 x4 x5 x6 x7 x8 x9 x10 x11 x12 x13 x14 _ => ⟨x0,x1,x2,x3,x4,x5,x6,x7,x8,x9,x10,x11,x12,x13,x14,x⟩) e⟩
theorem selC_eq {α : Type} (i : I16) (e : N16 α) : (selC i).g e = N16.get i e := by cases i <;> rfl
theorem putC_eq {α : Type} (i : I16) (x : α) (e : N16 α) : (putC i).g x e = N16.set i x e := by cases i <;> rfl
def getC (t : Nat) : GF := match slotOf t with
 | .f hi lo => ⟨fun e => (selC lo).g ((selC hi).g e.lo)⟩
 | .s k => ⟨fun e => e.hi.get k⟩
def setC (t : Nat) : SF := match slotOf t with
 | .f hi lo => ⟨fun v e => Envs.rec (motive := fun _ => Envs) (fun el eh => ⟨(putC hi).g ((putC lo).g (some v) ((selC hi).g el)) el,eh⟩) e⟩
 | .s k => ⟨fun v e => Envs.rec (motive := fun _ => Envs) (fun el eh => ⟨el,eh.set k v⟩) e⟩
theorem getC_eq (t : Nat) (e : Envs) : (getC t).g e = e.get t := by
 unfold getC Envs.get
 cases slotOf t with
 | f hi lo => simp only [selC_eq]
 | s k => rfl
theorem setC_eq (t : Nat) (v : SV) (e : Envs) : (setC t).g v e = e.set t v := by
 cases e
 unfold setC Envs.set
 cases slotOf t with
 | f hi lo => simp only [selC_eq,putC_eq]
 | s k => rfl
def Zfm : Operand → GF
 | .tmp t => getC t
 | .const v => ⟨fun _ => ofV v⟩
 | .global g => ⟨fun _ => some (.pg g 0)⟩
 | .func f => ⟨fun _ => some (.fn (.func f) [] [])⟩
theorem Zc4 (x : Operand) (e : Envs) : (Zfm x).g e = opnd e x := by
 cases x with
 | tmp t => exact getC_eq t e
 | _ => rfl
def opndsC : List Operand → LF
 | [] => ⟨fun _ => some []⟩
 | x :: l => ⟨fun e => match (Zfm x).g e with
  | some a => match (opndsC l).g e with | some b => some (a :: b) | none => none
  | none => none⟩
theorem opndsC_eq (e : Envs) : ∀ l : List Operand,(opndsC l).g e = opnds e l
 | [] => rfl
 | x :: l => by simp only [opndsC,opnds,Zc4,opndsC_eq e l] <;> rfl
def putEC : Option Tmp → SF
 | some d => setC d
 | none => ⟨fun _ e => e⟩
theorem putEC_eq (d : Option Tmp) (v : SV) (e : Envs) : (putEC d).g v e = putE d v e := by
 cases d with
 | some d => exact setC_eq d v e
 | none => rfl

/-! ### numbers -/
def limN : IntKind → Nat
 | .i8 => 128 | .i16 => 32768 | .i32 => 2147483648 | .i64 => 9223372036854775808
 | .u8 => 256 | .u16 => 65536 | .u32 => 4294967296 | .u64 => 18446744073709551616
theorem wrap_lim {k : IntKind} {n : Nat} (h : n < limN k) : k.wrap (Int.ofNat n) = Int.ofNat n := by
 have e : (Int.ofNat n : Int) = (n : Int) := rfl
 rw [e]
 cases k <;> simp only [limN] at h <;> simp only [IntKind.wrap,IntKind.bits,IntKind.signed] <;> simp <;> omega
def addW (k : IntKind) (a b : Int) : Int := match a,b with
 | .ofNat x,.ofNat y => bif Nat.blt (Nat.add x y) (limN k) then .ofNat (Nat.add x y) else k.wrap (.ofNat x + .ofNat y)
 | a,b => k.wrap (a + b)
theorem addW_eq (k : IntKind) (a b : Int) : addW k a b = k.wrap (a + b) := by
 unfold addW
 split
 ·rename_i x y
  cases h : Nat.blt (Nat.add x y) (limN k) with
  | false => rfl
  | true =>
   have := wrap_lim (Zcr h)
   rw [cond_true,← this]; rfl
 ·rfl
def subW (k : IntKind) (a b : Int) : Int := match a,b with
 | .ofNat x,.ofNat y => bif Nat.ble y x && Nat.blt (Nat.sub x y) (limN k) then .ofNat (Nat.sub x y) else k.wrap (.ofNat x - .ofNat y)
 | a,b => k.wrap (a - b)
theorem subW_eq (k : IntKind) (a b : Int) : subW k a b = k.wrap (a - b) := by
 unfold subW
 split
 ·rename_i x y
  cases h : (Nat.ble y x && Nat.blt (Nat.sub x y) (limN k)) with
  | false => rfl
  | true =>
   rw [Bool.and_eq_true] at h
   have h1 := Zca h.1
   have := wrap_lim (Zcr h.2)
   rw [cond_true,← this]
   congr 1
   show ((x - y : Nat) : Int) = (x : Int) - (y : Int)
   omega
 ·rfl
section
variable (Γ : Ctx)
def binC (op : BinOp) (t : TypeId) (x y : Operand) : BF :=
 match op with
 | .add => ⟨fun a b => match a with
  | .i k a => (match b with | .i k' b => (bif ikeq k k' then some (.i k (addW k a b)) else none) | b => bin Γ .add t x y (.i k a) b)
  | a => bin Γ .add t x y a b⟩
 | .sub => ⟨fun a b => match a with
  | .i k a => (match b with | .i k' b => (bif ikeq k k' then some (.i k (subW k a b)) else none) | b => bin Γ .sub t x y (.i k a) b)
  | a => bin Γ .sub t x y a b⟩
 | .lss => ⟨fun a b => match a with
  | .i k a => (match b with | .i k' b => (bif ikeq k k' then some (.b (ilt a b)) else none) | b => bin Γ .lss t x y (.i k a) b)
  | a => bin Γ .lss t x y a b⟩
 | .leq => ⟨fun a b => match a with
  | .i k a => (match b with | .i k' b => (bif ikeq k k' then some (.b (!ilt b a)) else none) | b => bin Γ .leq t x y (.i k a) b)
  | a => bin Γ .leq t x y a b⟩
 | .gtr => ⟨fun a b => match a with
  | .i k a => (match b with | .i k' b => (bif ikeq k k' then some (.b (ilt b a)) else none) | b => bin Γ .gtr t x y (.i k a) b)
  | a => bin Γ .gtr t x y a b⟩
 | .geq => ⟨fun a b => match a with
  | .i k a => (match b with | .i k' b => (bif ikeq k k' then some (.b (!ilt a b)) else none) | b => bin Γ .geq t x y (.i k a) b)
  | a => bin Γ .geq t x y a b⟩
 | .eql => ⟨fun a b => match a with
  | .i k a => (match b with | .i k' b => (bif ikeq k k' then some (.b (ieq a b)) else none) | b => bin Γ .eql t x y (.i k a) b)
  | a => bin Γ .eql t x y a b⟩
 | .neq => ⟨fun a b => match a with
  | .i k a => (match b with | .i k' b => (bif ikeq k k' then some (.b (!ieq a b)) else none) | b => bin Γ .neq t x y (.i k a) b)
  | a => bin Γ .neq t x y a b⟩
 | op => ⟨fun a b => bin Γ op t x y a b⟩
theorem binC_eq (op : BinOp) (t : TypeId) (x y : Operand) (a b : SV) : (binC Γ op t x y).g a b = bin Γ op t x y a b := by
 cases op <;> try rfl
 all_goals (cases a <;> try rfl)
 all_goals (cases b <;> try rfl)
 all_goals (simp only [binC,bin,binI,addW_eq,subW_eq])

/-! ### operations -/
def pureC (op : Op) : GF :=
 match op with
 | .move x => Zfm x
 | .assign x => Zfm x
 | .pick c a b => ⟨fun e => match (Zfm c).g e with | some (.b t) => (bif t then (Zfm a).g e else (Zfm b).g e) | _ => none⟩
 | .nilCheck x => ⟨fun e => match (Zfm x).g e with | some v => evNil v | none => none⟩
 | .binOp op t x y _ => ⟨fun e => match (Zfm x).g e with
  | some a => match (Zfm y).g e with | some b => (binC Γ op t x y).g a b | none => none
  | none => none⟩
 | .unOp op _ x => ⟨fun e => match (Zfm x).g e with | some a => un op a | none => none⟩
 | .fieldAddr t x f => match Γ.ty.get t with
  | some ti => match ti.und with
   | .struct _ => ⟨fun e => match (Zfm x).g e with | some v => evFieldAddr ti.pl f v | none => none⟩
   | _ => ⟨fun _ => none⟩
  | none => ⟨fun _ => none⟩
 | .field t x f => match und Γ t with
  | some (.struct fs) => match fs[f]? with
   | some fd => ⟨fun e => match (Zfm x).g e with
    | some (.agg cs) => part Γ fd.type cs fd.offset
    | _ => none⟩
   | none => ⟨fun _ => none⟩
  | _ => ⟨fun _ => none⟩
 | .extract x i => ⟨fun e => match (Zfm x).g e with | some (.tup l) => l[i]? | _ => none⟩
 | .indexAddr t x i => match und Γ t with
  | some d => match elemOf d with
   | some el => match siz Γ el with
    | some sz => ⟨fun e => match (Zfm x).g e with
     | some v => match (Zfm i).g e with | some (.i _ (.ofNat k)) => evIndexAddr sz d v k | _ => none
     | none => none⟩
    | none => ⟨fun _ => none⟩
   | none => ⟨fun _ => none⟩
  | none => ⟨fun _ => none⟩
 | op => ⟨fun e => Zd0 Γ e op⟩
theorem pureC_eq (op : Op) (e : Envs) : (pureC Γ op).g e = Zd0 Γ e op := by
 cases op with
 | move x => exact Zc4 x e
 | assign x => exact Zc4 x e
 | pick c a b => simp only [pureC,Zd0,Zc4] <;> rfl
 | nilCheck x => simp only [pureC,Zd0,Zc4] <;> rfl
 | binOp op t x y ty => simp only [pureC,Zd0,Zc4,binC_eq] <;> rfl
 | unOp op t x => simp only [pureC,Zd0,Zc4] <;> rfl
 | fieldAddr t x f =>
  simp only [pureC,Zd0]
  cases Γ.ty.get t with
  | none => rfl
  | some ti =>
   obtain ⟨u,z,sz,b,ag,pl,ng⟩ := ti
   cases u <;> first | rfl | (simp only [Zc4] <;> rfl)
 | field t x f =>
  simp only [pureC,Zd0]
  cases und Γ t with
  | none => rfl
  | some d => cases d <;> first | rfl | (rename_i fs; simp only; cases fs[f]? <;> first | rfl | (simp only [Zc4] <;> rfl))
 | extract x i => simp only [pureC,Zd0,Zc4] <;> rfl
 | indexAddr t x i =>
  simp only [pureC,Zd0]
  cases und Γ t with
  | none => rfl
  | some d =>
   simp only
   cases elemOf d with
   | none => rfl
   | some el =>
    simp only
    cases siz Γ el with
    | none => rfl
    | some sz => simp only [Zc4] <;> rfl
 | _ => rfl
def readC (op : Op) : RF :=
 match op with
 | .load t x => match Γ.ty.get t with
  | some ti => bif ti.agg then ⟨fun e h => match (Zfm x).g e with | some (.p o off) => loadS Γ h t o off | _ => none⟩
   else ⟨fun e h => match (Zfm x).g e with | some (.p o off) => (match rowOf h o with | some c => c[off]? | none => none) | _ => none⟩
  | none => ⟨fun e h => Zft Γ e h op⟩
 | op => ⟨fun e h => Zft Γ e h op⟩
theorem readC_eq (op : Op) (e : Envs) (h : Heap) : (readC Γ op).g e h = Zft Γ e h op := by
 cases op with
 | load t x =>
  simp only [readC]
  cases hti : Γ.ty.get t with
  | none => rfl
  | some ti =>
   cases hag : ti.agg with
   | true => simp only [hag,cond_true,Zft,Zc4] <;> rfl
   | false => simp only [hag,cond_false,Zft,Zc4,loadS,part,hti] <;> rfl
 | _ => rfl
variable (rec : Job → Option Rs)
def heavyC (op : Op) : HF :=
 match op with
 | .store t x y => match siz Γ t with
  | some sz => ⟨fun _ e m => match (Zfm x).g e with
   | some (.p o off) => match (Zfm y).g e with
    | some v => bif Nat.beq (cells v).length sz then (match storeS m.h o off (cells v) with | some h => some (.tup [],⟨h,m.n⟩) | none => none) else none
    | none => none
   | _ => none⟩
  | none => ⟨fun rec e m => heavy Γ rec e m op⟩
 | .call { callee := .value f,args,argTypes := _ } => match f with
  | .func g => match Γ.ext.get g with
   | some xf => ⟨fun _ e m => match (opndsC args.toList).g e with | some vs => xf vs m | none => none⟩
   | none => ⟨fun rec e m => match (opndsC args.toList).g e with
    | some vs => (match rec (.call g vs m) with | some (.ret v m) => some (v,m) | _ => none)
    | none => none⟩
  | _ => ⟨fun rec e m => heavy Γ rec e m op⟩
 | op => ⟨fun rec e m => heavy Γ rec e m op⟩
theorem heavyC_eq (op : Op) (e : Envs) (m : Mem) : (heavyC Γ op).g rec e m = heavy Γ rec e m op := by
 cases op with
 | store t x y =>
  simp only [heavyC]
  cases hs : siz Γ t with
  | none => rfl
  | some sz =>
   simp only [heavy,mainOp,Zc4,hs]
   cases opnd e x with
   | none => rfl
   | some a =>
    cases a <;> try rfl
    simp only
    cases opnd e y with
    | none => rfl
    | some v =>
     simp only
     cases Nat.beq (cells v).length sz with
     | false => rfl
     | true =>
      simp only [cond_true]
      cases storeS m.h _ _ (cells v) <;> rfl
 | call c =>
  obtain ⟨callee,args,ts⟩ := c
  cases callee with
  | value f =>
   cases f with
   | func g =>
    simp only [heavyC,heavy,mainOp,resolveS,opnd]
    cases hx : Γ.ext.get g with
    | some xf =>
     simp only [opndsC_eq]
     cases opnds e args.toList with
     | none => rfl
     | some vs => simp only [List.nil_append,List.append_nil,hx]
    | none =>
     simp only [opndsC_eq]
     cases opnds e args.toList with
     | none => rfl
     | some vs => simp only [List.nil_append,List.append_nil,hx] <;> rfl
   | _ => rfl
  | _ => rfl
 | _ => rfl

/-! ### of what sort is an operation? -/
inductive Kc where
 | p
 | r
 | a
 | h
 | any
def kcT (op : Op) : Kc :=
 match op with
 | .move _ | .assign _ | .pick _ _ _ | .nilCheck _ | .binOp _ _ _ _ _ | .unOp _ _ _ | .makeInterface _ _ | .makeFunc _ _ _ | .slice _ _ _ _ _ | .fieldAddr _ _ _ | .field _ _ _ | .indexAddr _ _ _ | .index _ _ _ | .extract _ _ | .build _ _ | .sliceToArrayPointer _ _ => .p
 | .load _ _ | .lookup _ _ _ _ => .r
 | .alloc _ | .box _ _ | .buildSlice _ _ _ | .makeMap _ _ | .makeSlice _ _ _ => .a
 | .store _ _ _ | .mapUpdate _ _ _ _ | .insert _ _ _ _ => .h
 | .call { callee := .value _,args := _,argTypes := _ } => .h
 | .call { callee := .builtin b,args,argTypes } => match b with
  | .append | .copy | .clear | .delete => .h
  | .cap | .min | .max => .p
  | .len => match args.toList,argTypes.toList with
   | [_],t :: _ => match und Γ t with
    | some (.map _ _) => .r
    | some _ => .p
    | none => .any
   | _,_ => .any
  | _ => .any
 | .convert s d _ => match und Γ s,und Γ d with
  | some (.int _),some (.int _) => .p
  | some .string,some .string => .p
  | _,_ => .any
 | _ => .any

theorem kc_r {op : Op} (h : kcT Γ op = .r) (e : Envs) : Zd0 Γ e op = none ∧ allocOp Γ e op = none := by
 cases op with
 | load => exact ⟨rfl,rfl⟩
 | lookup => exact ⟨rfl,rfl⟩
 | convert s d x =>
  simp only [kcT] at h
  split at h <;> cases h
 | call c =>
  obtain ⟨callee,args,ts⟩ := c
  cases callee with
  | builtin b =>
   cases b <;> try (simp only [kcT] at h; cases h)
   simp only [kcT] at h
   split at h
   ·rename_i x t r ha ht
    split at h
    ·rename_i k v hu
     refine ⟨?_,rfl⟩
     simp only [Zd0,evBuiltin,ha,ht,hu]
     cases opnd e x with
     | none => rfl
     | some u => rfl
    ·cases h
    ·cases h
   ·cases h
  | _ => simp only [kcT] at h; cases h
 | _ => simp only [kcT] at h; cases h
theorem kc_a {op : Op} (h : kcT Γ op = .a) (e : Envs) (hp : Heap) : Zd0 Γ e op = none ∧ Zft Γ e hp op = none := by
 cases op with
 | alloc => exact ⟨rfl,rfl⟩
 | box => exact ⟨rfl,rfl⟩
 | buildSlice => exact ⟨rfl,rfl⟩
 | makeMap => exact ⟨rfl,rfl⟩
 | makeSlice => exact ⟨rfl,rfl⟩
 | convert s d x =>
  simp only [kcT] at h
  split at h <;> cases h
 | call c =>
  obtain ⟨callee,args,ts⟩ := c
  cases callee with
  | builtin b =>
   cases b <;> try (simp only [kcT] at h; cases h)
   simp only [kcT] at h
   split at h
   ·split at h <;> cases h
   ·cases h
  | _ => simp only [kcT] at h; cases h
 | _ => simp only [kcT] at h; cases h
theorem kc_h {op : Op} (h : kcT Γ op = .h) (e : Envs) (hp : Heap) : Zd0 Γ e op = none ∧ Zft Γ e hp op = none ∧ allocOp Γ e op = none := by
 cases op with
 | store => exact ⟨rfl,rfl,rfl⟩
 | mapUpdate => exact ⟨rfl,rfl,rfl⟩
 | insert => exact ⟨rfl,rfl,rfl⟩
 | convert s d x =>
  simp only [kcT] at h
  split at h <;> cases h
 | call c =>
  obtain ⟨callee,args,ts⟩ := c
  cases callee with
  | value f => exact ⟨rfl,rfl,rfl⟩
  | builtin b =>
   cases b <;> first | exact ⟨rfl,rfl,rfl⟩ | (simp only [kcT] at h; first | cases h | (split at h; (split at h <;> cases h); cases h))
  | invoke => simp only [kcT] at h; cases h
 | _ => simp only [kcT] at h; cases h
def bodyC (o : Oper) : KF := match kcT Γ o.op with
 | .p => ⟨fun _ e m k => match (pureC Γ o.op).g e with | some v => k ((putEC o.dst).g v e) m | none => none⟩
 | .r => ⟨fun _ e m k => match (readC Γ o.op).g e m.h with | some v => k ((putEC o.dst).g v e) m | none => none⟩
 | .a => match o.dst with
  | some d => ⟨fun _ e m k => match allocOp Γ e o.op with
   | some (ob,mk) => (bif Nat.blt m.n top then forceN m.n (fun n => k ((setC d).g (mk.at n) e) ⟨m.h.set n ob,Nat.succ n⟩) else none)
   | none => none⟩
  | none => ⟨fun _ _ _ _ => none⟩
 | .h => ⟨fun rec e m k => forceN m.n (fun n => match (heavyC Γ o.op).g rec e ⟨m.h,n⟩ with | some (v,m) => k ((putEC o.dst).g v e) m | none => none)⟩
 | .any => ⟨fun rec e m k => match oneOp Γ rec e m o with | some (e,m) => k e m | none => none⟩
theorem bodyC_ok {o : Oper} {e : Envs} {m : Mem} {k : Envs → Mem → Option Rs} {r : Rs} (h : (bodyC Γ o).g rec e m k = some r) : ∃ e' m',oneOp Γ rec e m o = some (e',m') ∧ k e' m' = some r := by
 unfold bodyC at h
 split at h
 ·simp only [pureC_eq,putEC_eq] at h
  split at h
  ·rename_i v hv
   exact ⟨_,_,by unfold oneOp; rw [hv],h⟩
  ·cases h
 ·rename_i hk
  simp only [readC_eq,putEC_eq] at h
  split at h
  ·rename_i v hv
   exact ⟨_,_,by unfold oneOp; rw [(kc_r Γ hk e).1]; simp only [hv],h⟩
  ·cases h
 ·rename_i hk
  split at h
  ·rename_i d hd
   simp only at h
   split at h
   ·rename_i ob mk hal
    replace h := Zas h; obtain ⟨ht,h⟩ := h
    simp only [setC_eq,forceN_eq] at h
    refine ⟨_,_,?_,h⟩
    unfold oneOp
    rw [(kc_a Γ hk e m.h).1]
    simp only [(kc_a Γ hk e m.h).2,hal,hd,ht,cond_true]
   ·cases h
  ·cases h
 ·rename_i hk
  simp only [heavyC_eq,putEC_eq,forceN_eq] at h
  split at h
  ·rename_i v m' hv
   refine ⟨_,_,?_,h⟩
   unfold oneOp
   rw [(kc_h Γ hk e m.h).1]
   simp only [(kc_h Γ hk e m.h).2.1,(kc_h Γ hk e m.h).2.2,hv]
  ·cases h
 ·simp only at h
  split at h
  ·rename_i e' m' hv
   exact ⟨_,_,hv,h⟩
  ·cases h
def guardC (all : List Oper) (g : Option (Nat × Bool)) : Option (Nat × Bool) := match g with
 | none => none
 | some (j,b) => match all[j]? with
  | some o => match o.dst with | some d => some (d,b) | none => none
  | none => none
def opC (all : List Oper) (o : Oper) : KF := match o.guard with
 | none => bodyC Γ o
 | some q => match guardC all (some q) with
  | some (d,b) => ⟨fun rec e m k => match (getC d).g e with
   | some (.b c) => bif c == b then (bodyC Γ o).g rec e m k else k ((putEC o.dst).g Zfr e) m
   | some (.tup []) => k ((putEC o.dst).g Zfr e) m
   | _ => none⟩
  | none => ⟨fun _ _ _ _ => none⟩
def opsC (all : List Oper) : List Oper → KF
 | [] => ⟨fun _ e m k => k e m⟩
 | o :: r => ⟨fun rec e m k => (opC Γ all o).g rec e m (fun e m => (opsC all r).g rec e m k)⟩
theorem opC_ok {all : List Oper} {o : Oper} {e : Envs} {m : Mem} {k : Envs → Mem → Option Rs} {r : Rs} (h : (opC Γ all o).g rec e m k = some r) :
  (wantedS e all o.guard = some true ∧ ∃ e' m',oneOp Γ rec e m o = some (e',m') ∧ k e' m' = some r) ∨ (wantedS e all o.guard = some false ∧ k (putE o.dst Zfr e) m = some r) := by
 unfold opC at h
 split at h
 ·rename_i hg
  exact .inl ⟨by rw [hg]; rfl,bodyC_ok Γ rec h⟩
 ·rename_i q hg
  obtain ⟨j,b⟩ := q
  split at h
  ·rename_i d b' hgc
   unfold guardC at hgc
   simp only at hgc
   split at hgc
   ·rename_i oj hj
    split at hgc
    ·rename_i d' hd
     cases hgc
     have hw : wantedS e all o.guard = match e.get d with | some (.b c) => some (c == b) | some (.tup []) => some false | _ => none := by
      rw [hg]; simp only [wantedS,hj,hd] <;> rfl
     simp only [getC_eq,putEC_eq] at h
     split at h
     ·rename_i c hc
      rcases Zb9 h with ⟨hcb,h⟩ | ⟨hcb,h⟩
      ·exact .inl ⟨by rw [hw,hc]; simp only [hcb],bodyC_ok Γ rec h⟩
      ·exact .inr ⟨by rw [hw,hc]; simp only [hcb],h⟩
     ·rename_i hc
      exact .inr ⟨by rw [hw,hc],h⟩
     ·cases h
    ·cases hgc
   ·cases hgc
  ·cases h
theorem opsC_ok {all : List Oper} {k : Envs → Mem → Option Rs} {r : Rs} : ∀ (l : List Oper) (e : Envs) (m : Mem),(opsC Γ all l).g rec e m k = some r → ∃ e' m',runOps Γ rec all l e m = some (e',m') ∧ k e' m' = some r
 | [],e,m,h => ⟨e,m,rfl,h⟩
 | o :: l,e,m,h => by
  simp only [opsC] at h
  rcases opC_ok Γ rec h with ⟨hw,e1,m1,h1,h2⟩ | ⟨hw,h2⟩
  ·obtain ⟨e2,m2,h3,h4⟩ := opsC_ok l e1 m1 h2
   exact ⟨e2,m2,by simp only [runOps,hw,h1]; exact h3,h4⟩
  ·obtain ⟨e2,m2,h3,h4⟩ := opsC_ok l _ m h2
   exact ⟨e2,m2,by simp only [runOps,hw]; exact h3,h4⟩
end
end
end Cr.Cl
namespace Cr.Cl
open Go Go.MapKept
set_option maxRecDepth 4000
noncomputable section
structure DF where
 g : (Job → Option Rs) → Nat → Envs → List (Nat × SO) → Mem → (Envs → List (Nat × SO) → Mem → Option Rs) → Option Rs
structure EF where
 g : Envs → Option Envs
def absorb (base : Nat) (p : Nat → Bool) : List (Nat × SO) → Heap → Option Heap
 | [],h => some h
 | (k,ob) :: r,h => bif p k then (bif Nat.blt (base + k) top then forceN (base + k) (fun n => match h.get n with | none => absorb base p r (h.set n ob) | some _ => none) else none) else absorb base p r h
def keepD (p : Nat → Bool) : List (Nat × SO) → List (Nat × SO)
 | [] => []
 | (k,ob) :: r => bif p k then keepD p r else (k,ob) :: keepD p r
def restr (e : Envs) : List Nat → Option Envs
 | [] => some .nil
 | t :: r => match restr e r with
  | none => none
  | some e1 => match e.get t with | some v => some (e1.set t v) | none => none
def restrC : List Nat → EF
 | [] => ⟨fun _ => some .nil⟩
 | t :: r => ⟨fun e => match (restrC r).g e with
  | none => none
  | some e1 => match (getC t).g e with | some v => some ((setC t).g v e1) | none => none⟩
theorem restrC_eq (e : Envs) : ∀ ts : List Nat,(restrC ts).g e = restr e ts
 | [] => rfl
 | t :: r => by simp only [restrC,restr,restrC_eq e r,getC_eq,setC_eq]
def Zdb (abs : Nat) : List Ent → Nat → List (Nat × SO)
 | [],_ => []
 | x :: r,k => match x.kd with
  | .alloc ob _ => bif bit abs k then Zdb abs r (k + 1) else (k,ob) :: Zdb abs r (k + 1)
  | _ => Zdb abs r (k + 1)
theorem absorb_eq (base : Nat) (p : Nat → Bool) (abs : Nat) : ∀ (ents : List Ent) (k : Nat) (h : Heap),absorb base p (Zdb abs ents k) h = addP base (fun n => p n && !bit abs n) ents k h
 | [],k,h => rfl
 | x :: r,k,h => by
  have ih := absorb_eq base p abs r (k + 1)
  simp only [Zdb,addP]
  cases x.kd with
  | alloc ob mk =>
   simp only
   cases bit abs k with
   | true => simp only [cond_true,Bool.not_true,Bool.and_false,cond_false]; exact ih h
   | false =>
    simp only [cond_false,Bool.not_false,Bool.and_true,absorb]
    cases p k with
    | false => simp only [cond_false]; exact ih h
    | true =>
     simp only [cond_true]
     cases Nat.blt (base + k) top with
     | false => rfl
     | true =>
      simp only [cond_true,forceN_eq]
      cases Heap.get h (base + k) with
      | none => exact ih _
      | some _ => rfl
  | soft => exact ih h
  | read => exact ih h
  | main => exact ih h
theorem keepD_eq (m abs : Nat) : ∀ (ents : List Ent) (k : Nat),keepD (bit m) (Zdb abs ents k) = Zdb (Nat.lor abs m) ents k
 | [],k => rfl
 | x :: r,k => by
  have ih := keepD_eq m abs r (k + 1)
  simp only [Zdb]
  cases x.kd with
  | alloc ob mk =>
   simp only [bit_lor]
   cases bit abs k with
   | true => simp only [cond_true,Bool.true_or]; exact ih
   | false =>
    simp only [cond_false,Bool.false_or,keepD]
    cases bit m k with
    | true => simp only [cond_true]; exact ih
    | false => simp only [cond_false,ih]
  | soft => exact ih
  | read => exact ih
  | main => exact ih
theorem pendOf_append (abs : Nat) : ∀ (a b : List Ent) (k : Nat),Zdb abs (a ++ b) k = Zdb abs a k ++ Zdb abs b (k + a.length)
 | [],b,k => by simp [Zdb]
 | x :: a,b,k => by
  have ih := pendOf_append abs a b (k + 1)
  rw [show k + 1 + a.length = k + (a.length + 1) by omega] at ih
  simp only [List.cons_append,Zdb,List.length_cons]
  cases x.kd with
  | alloc ob mk =>
   simp only
   cases bit abs k with
   | true => simp only [cond_true]; exact ih
   | false => simp only [cond_false,List.cons_append,ih]
  | soft => exact ih
  | read => exact ih
  | main => exact ih
theorem addP_none (base : Nat) {p : Nat → Bool} : ∀ (b : List Ent) (k : Nat) (h : Heap),(∀ n,p (k + n) = false) → addP base p b k h = some h
 | [],_,_,_ => rfl
 | x :: r,k,h,hp => by
  have ih := addP_none base (p := p) r (k + 1) h fun n => by rw [show k + 1 + n = k + (n + 1) by omega]; exact hp _
  simp only [addP]
  cases x.kd with
  | alloc ob mk => simp only [show p k = false from hp 0,cond_false]; exact ih
  | soft => exact ih
  | read => exact ih
  | main => exact ih
theorem addP_append (base : Nat) {p : Nat → Bool} : ∀ (a b : List Ent) (k : Nat) (h : Heap),(∀ n,p (k + a.length + n) = false) → addP base p (a ++ b) k h = addP base p a k h
 | [],b,k,h,hp => by simpa [addP] using addP_none base b k h (by simpa using hp)
 | x :: a,b,k,h,hp => by
  have ih := fun h => addP_append base (p := p) a b (k + 1) h fun n => by rw [show k + 1 + a.length + n = k + (a.length + 1) + n by omega]; exact hp n
  simp only [List.cons_append,addP]
  cases x.kd with
  | alloc ob mk => simp only [ih]
  | soft => exact ih h
  | read => exact ih h
  | main => exact ih h
theorem mkEnv_more {l : List Oper} {ms : List Nat} {i : Nat} {e0 : Envs} {ents ents' : List Ent} (hp : ∃ t,ents' = ents ++ t) : ∀ (ts : List Nat) (e : Envs),mkEnv l ms i e0 ents ts = some e → mkEnv l ms i e0 ents' ts = some e
 | [],e,h => h
 | t :: r,e,h => by
  simp only [mkEnv] at h ⊢
  split at h
  ·cases h
  ·rename_i e1 he1
   rw [mkEnv_more hp r e1 he1]
   simp only
   replace h := Zas h; obtain ⟨ht,h⟩ := h
   rw [ht,cond_true]
   split at h
   ·split at h
    ·rename_i x hx
     rw [Zdi hp hx]; exact h
    ·cases h
   ·exact h
   ·cases h
theorem readP_more {Γ : Ctx} {base : Nat} {ents t : List Ent} {y mask : Nat} {e : Envs} {op : Op} {v : SV} {q : Nat × Mem} (hm : mask < 2 ^ y) (hy : y ≤ ents.length) (h : ReadP Γ base ents mask e op v q) : ReadP Γ base (ents ++ t) mask e op v q := by
 obtain ⟨h',h1,h2⟩ := h
 refine ⟨h',?_,h2⟩
 rw [addP_append base ents t 0 _ fun n => ?_]
 ·exact h1
 ·unfold seen; rw [bit_high hm (by omega)]; rfl
theorem putAll_miss : ∀ (r : List Oper) (xs : List Ent) (e : Envs) (t : Nat),(∀ o ∈ r,∀ d,o.dst = some d → d < top) → (∀ (k : Nat) (o : Oper),r[k]? = some o → k < xs.length → o.dst ≠ some t) → (Zdk r xs e).get t = e.get t
 | [],_,_,_,_,_ => by simp [Zdk]
 | _ :: _,[],_,_,_,_ => by simp [Zdk]
 | o :: r,x :: xs,e,t,hb,hn => by
  simp only [Zdk]
  rw [putAll_miss r xs _ t (fun o ho => hb o (List.mem_cons_of_mem _ ho)) fun k o' hk hl => hn (k + 1) o' (by simpa using hk) (by simpa using hl)]
  cases hd : o.dst with
  | none => rfl
  | some d =>
   show (e.set d x.v).get t = _
   rw [Envs.get_set x.v t (hb o (List.mem_cons_self ..) d hd),if_neg]
   rintro rfl
   exact hn 0 o rfl (by simp) hd
theorem putAll_hit : ∀ (r : List Oper) (xs : List Ent) (e : Envs) (t k : Nat) (o : Oper) (x : Ent),(∀ o ∈ r,∀ d,o.dst = some d → d < top) → r[k]? = some o → xs[k]? = some x → o.dst = some t → (∀ (j : Nat) (o' : Oper),k < j → r[j]? = some o' → o'.dst ≠ some t) → (Zdk r xs e).get t = some x.v
 | [],_,_,_,_,_,_,_,h,_,_,_ => by simp at h
 | _ :: _,[],_,_,_,_,_,_,_,h,_,_ => by simp at h
 | o :: r,x :: xs,e,t,0,o1,x1,hb,ho,hx,hd,hl => by
  simp at ho hx; subst ho; subst hx
  simp only [Zdk]
  rw [putAll_miss r xs _ t (fun o ho => hb o (List.mem_cons_of_mem _ ho)) fun k o' hk _ => hl (k + 1) o' (by omega) (by simpa using hk),hd]
  show (e.set t x.v).get t = _
  rw [Envs.get_set x.v t (hb o (List.mem_cons_self ..) t hd),if_pos rfl]
 | o :: r,x :: xs,e,t,k + 1,o1,x1,hb,ho,hx,hd,hl => by
  simp only [Zdk]
  exact putAll_hit r xs _ t k o1 x1 (fun o ho => hb o (List.mem_cons_of_mem _ ho)) (by simpa using ho) (by simpa using hx) hd fun j o' hj hk => hl (j + 1) o' (by omega) (by simpa using hk)
theorem putAll_snoc : ∀ (r : List Oper) (xs : List Ent) (e : Envs) (o : Oper) (x : Ent),xs.length = r.length → Zdk (r ++ [o]) (xs ++ [x]) e = putE o.dst x.v (Zdk r xs e)
 | [],[],_,_,_,_ => rfl
 | _ :: r,_ :: xs,e,o,x,h => by
  simp only [List.cons_append,Zdk]
  exact putAll_snoc r xs _ o x (by simpa using h)
 | [],_ :: _,_,_,_,h => by simp at h
 | _ :: _,[],_,_,_,h => by simp at h
section
variable (Γ : Ctx)
def allH (q : Nat → Bool) : List Oper → Nat → Bool
 | [],_ => true
 | o :: r,j => (match kcT Γ o.op with | .h => q j | _ => true) && allH q r (j + 1)
theorem allH_get {q : Nat → Bool} : ∀ {r : List Oper} {n j : Nat} {o : Oper},allH Γ q r n = true → r[j]? = some o → kcT Γ o.op = .h → q (n + j) = true
 | [],_,_,_,_,h,_ => by simp at h
 | a :: r,n,0,o,h,ho,hk => by
  simp at ho; subst ho
  simp only [allH,Bool.and_eq_true] at h
  rw [hk] at h; exact h.1
 | a :: r,n,j + 1,o,h,ho,hk => by
  simp only [allH,Bool.and_eq_true] at h
  have := allH_get h.2 (by simpa using ho) hk
  rwa [show n + 1 + j = n + (j + 1) by omega] at this
def okOne (l : List Oper) (ms : List Nat) (i : Nat) (o : Oper) : Bool :=
 (Nat.blt (mk ms i) (2 ^ i) && (Zes o.op).all (fun t => Nat.blt t top && (match srcAt l ms i t with | some _ => true | none => false))) &&
 ((match o.guard with | none => true | some (j,_) => bit (mk ms i) j) && (match o.dst with | some d => Nat.blt d top | none => true)) &&
 (match kcT Γ o.op with
  | .any => false
  | .h => allH Γ (fun j => !Nat.blt j i || bit (mk ms i) j) l 0
  | .r => allH Γ (fun j => bit (mk ms i) j || bit (mk ms j) i) l 0
  | _ => true)
def allO (l : List Oper) (ms : List Nat) : List Oper → Nat → Bool
 | [],_ => true
 | o :: r,i => okOne Γ l ms i o && allO l ms r (i + 1)
theorem Zey {l : List Oper} {ms : List Nat} : ∀ {r : List Oper} {n j : Nat} {o : Oper},allO Γ l ms r n = true → r[j]? = some o → okOne Γ l ms (n + j) o = true
 | [],_,_,_,_,h => by simp at h
 | a :: r,n,0,o,h,ho => by
  simp at ho; subst ho
  simp only [allO,Bool.and_eq_true] at h; exact h.1
 | a :: r,n,j + 1,o,h,ho => by
  simp only [allO,Bool.and_eq_true] at h
  have := Zey h.2 (by simpa using ho)
  rwa [show n + 1 + j = n + (j + 1) by omega] at this
def dopC (ms : List Nat) (i : Nat) (o : Oper) : DF := match kcT Γ o.op with
 | .p => ⟨fun _ _ e pd m k => match (restrC (Zes o.op)).g e with
  | some e1 => (match (pureC Γ o.op).g e1 with | some v => k ((putEC o.dst).g v e) pd m | none => none)
  | none => none⟩
 | .a => match o.dst with
  | some d => ⟨fun _ base e pd m k => match (restrC (Zes o.op)).g e with
   | some e1 => (match allocOp Γ e1 o.op with | some (ob,mk) => forceN (base + i) (fun n => k ((setC d).g (mk.at n) e) (pd ++ [(i,ob)]) m) | none => none)
   | none => none⟩
  | none => ⟨fun _ _ _ _ _ _ => none⟩
 | .r => ⟨fun _ base e pd m k => match (restrC (Zes o.op)).g e with
  | some e1 => (match absorb base (bit (mk ms i)) pd m.h with
   | some h => (match (readC Γ o.op).g e1 h with | some v => k ((putEC o.dst).g v e) pd m | none => none)
   | none => none)
  | none => none⟩
 | .h => ⟨fun rec base e pd m k => match (restrC (Zes o.op)).g e with
  | some e1 => (match absorb base (bit (mk ms i)) pd m.h with
   | some h => forceN m.n (fun n => match (heavyC Γ o.op).g rec e1 ⟨h,n⟩ with | some (v,m1) => k ((putEC o.dst).g v e) (keepD (bit (mk ms i)) pd) m1 | none => none)
   | none => none)
  | none => none⟩
 | .any => ⟨fun _ _ _ _ _ _ => none⟩
def dgC (l : List Oper) (ms : List Nat) (i : Nat) (o : Oper) : DF := match o.guard with
 | none => dopC Γ ms i o
 | some q => match guardC l (some q) with
  | some (d,b) => match o.dst with
   | some d' => ⟨fun rec base e pd m k => match (getC d).g e with
    | some (.b c) => bif c == b then (dopC Γ ms i o).g rec base e pd m k else k ((setC d').g Zfr e) pd m
    | some (.tup []) => k ((setC d').g Zfr e) pd m
    | _ => none⟩
   | none => ⟨fun _ _ _ _ _ _ => none⟩
  | none => ⟨fun _ _ _ _ _ _ => none⟩
def dopsC (l : List Oper) (ms : List Nat) : List Oper → Nat → DF
 | [],_ => ⟨fun _ _ e pd m k => k e pd m⟩
 | o :: r,i => ⟨fun rec base e pd m k => (dgC Γ l ms i o).g rec base e pd m (fun e pd m => (dopsC l ms r (i + 1)).g rec base e pd m k)⟩
def drawC (l : List Oper) : KF := bif allO Γ l (Zbj l) l 0 then
  ⟨fun rec e m k => bif Nat.ble (m.n + l.length) top then forceN m.n (fun b => (dopsC Γ l (Zbj l) l 0).g rec b e [] ⟨m.h,b + l.length⟩ (fun e pd m' => match absorb b (fun _ => true) pd m'.h with | some h => k e ⟨h,m'.n⟩ | none => none)) else none⟩
 else ⟨fun rec e m k => match drawEval Γ rec l e m with | some (e,m) => k e m | none => none⟩
end
section
variable {Γ : Ctx} {rec : Job → Option Rs} {l : List Oper} {base : Nat} {e0 : Envs}
structure RelD (Γ : Ctx) (l : List Oper) (base : Nat) (e0 : Envs) (st : DSt) (i : Nat) (e : Envs) (pd : List (Nat × SO)) (m : Mem) : Prop where
 len : st.ents.length = i
 le : i ≤ l.length
 env : e = Zdk (l.take i) st.ents e0
 pd : pd = Zdb st.abs st.ents 0
 cur : m = st.cur
 wf : Wf (Zbj l) st
 main : ∀ (k y : Nat),st.mains[k]? = some y → y < i ∧ ∃ o,l[y]? = some o ∧ kcT Γ o.op = .h
 abs : ∀ k,bit st.abs k = true → k < i
 read : ∀ (y : Nat) (o : Oper) (x : Ent),l[y]? = some o → st.ents[y]? = some x → x.kd = .read → kcT Γ o.op = .r ∧ ∃ e1,mkEnv l (Zbj l) y e0 st.ents (Zes o.op) = some e1 ∧ ∃ j q,st.mems[j]? = some q ∧ j ≤ st.mains.length ∧ (∀ (k z : Nat),st.mains[k]? = some z → (k < j ↔ z < y)) ∧ ReadP Γ base st.ents (mk (Zbj l) y) e1 o.op x.v q
theorem Zcz {ms : List Nat} {i : Nat} {o : Oper} (h : okOne Γ l ms i o = true) : mk ms i < 2 ^ i ∧ (∀ t ∈ Zes o.op,t < top ∧ srcAt l ms i t ≠ none) ∧ (∀ j b,o.guard = some (j,b) → bit (mk ms i) j = true) ∧ (∀ d,o.dst = some d → d < top) ∧
  (kcT Γ o.op = .h → allH Γ (fun j => !Nat.blt j i || bit (mk ms i) j) l 0 = true) ∧ (kcT Γ o.op = .r → allH Γ (fun j => bit (mk ms i) j || bit (mk ms j) i) l 0 = true) := by
 unfold okOne at h
 rw [Bool.and_eq_true,Bool.and_eq_true,Bool.and_eq_true,Bool.and_eq_true] at h
 obtain ⟨⟨⟨h1,h2⟩,h3,h4⟩,h5⟩ := h
 refine ⟨Zcr h1,fun t ht => ?_,fun j b hg => ?_,fun d hd => ?_,fun hk => ?_,fun hk => ?_⟩
 ·have := List.all_eq_true.1 h2 t ht
  rw [Bool.and_eq_true] at this
  refine ⟨Zcr this.1,fun q => ?_⟩
  rw [q] at this; exact absurd this.2 (by simp)
 ·rw [hg] at h3; exact h3
 ·rw [hd] at h4; exact Zcr h4
 ·rw [hk] at h5; exact h5
 ·rw [hk] at h5; exact h5
theorem RelD.hit (hA : allO Γ l (Zbj l) l 0 = true) (hd : Zch l = true) {st : DSt} {i : Nat} {e : Envs} {pd : List (Nat × SO)} {m : Mem} (R : RelD Γ l base e0 st i e pd m) {k t : Nat} {o : Oper} (hk : k < i) (ho : l[k]? = some o) (hdo : o.dst = some t) : ∃ x,st.ents[k]? = some x ∧ e.get t = some x.v := by
 obtain ⟨x,hx⟩ : ∃ x,st.ents[k]? = some x := ⟨_,List.getElem?_eq_getElem (by rw [R.len]; exact hk)⟩
 refine ⟨_,hx,?_⟩
 rw [R.env]
 refine putAll_hit (l.take i) st.ents e0 t k o _ (fun o ho d hd => ?_) (by rw [List.getElem?_take,if_pos hk]; exact ho) hx hdo fun j o' hj ho' hd' => ?_
 ·obtain ⟨j,hj⟩ := List.getElem?_of_mem (List.mem_of_mem_take ho)
  have := Zey Γ hA hj
  rw [Nat.zero_add] at this
  exact (Zcz this).2.2.2.1 d hd
 ·rw [List.getElem?_take] at ho'
  split at ho'
  ·have := Zfb hd k j o o' t ho ho' hdo hd'
   omega
  ·cases ho'
theorem RelD.miss (hA : allO Γ l (Zbj l) l 0 = true) {st : DSt} {i : Nat} {e : Envs} {pd : List (Nat × SO)} {m : Mem} (R : RelD Γ l base e0 st i e pd m) {t : Nat} (hn : ∀ (k : Nat) (o : Oper),k < i → l[k]? = some o → o.dst ≠ some t) : e.get t = e0.get t := by
 rw [R.env]
 refine putAll_miss (l.take i) st.ents e0 t (fun o ho d hd => ?_) fun k o hk _ => ?_
 ·obtain ⟨j,hj⟩ := List.getElem?_of_mem (List.mem_of_mem_take ho)
  have := Zey Γ hA hj
  rw [Nat.zero_add] at this
  exact (Zcz this).2.2.2.1 d hd
 ·rw [List.getElem?_take] at hk
  split at hk
  ·rename_i q; exact hn k o q hk
  ·cases hk
theorem bit_lt {ms : List Nat} {i k : Nat} (hm : mk ms i < 2 ^ i) (h : bit (mk ms i) k = true) : k < i := by
 rcases Nat.lt_or_ge k i with q | q
 ·exact q
 ·rw [bit_high hm q] at h; cases h
theorem RelD.mkE (hA : allO Γ l (Zbj l) l 0 = true) (hd : Zch l = true) {st : DSt} {i : Nat} {e : Envs} {pd : List (Nat × SO)} {m : Mem} (R : RelD Γ l base e0 st i e pd m) (hmi : Cl.mk (Zbj l) i < 2 ^ i) : ∀ (ts : List Nat),(∀ t ∈ ts,t < top ∧ srcAt l (Zbj l) i t ≠ none) → mkEnv l (Zbj l) i e0 st.ents ts = restr e ts
 | [],_ => rfl
 | t :: r,h => by
  obtain ⟨ht,hs⟩ := h t (List.mem_cons_self ..)
  simp only [mkEnv,restr,RelD.mkE hA hd R hmi r fun t ht => h t (List.mem_cons_of_mem _ ht)]
  cases restr e r with
  | none => rfl
  | some e1 =>
   simp only [nblt,ht,decide_true,cond_true]
   cases hsrc : srcAt l (Zbj l) i t with
   | none => exact absurd hsrc hs
   | some s =>
    unfold srcAt at hsrc
    split at hsrc
    ·rename_i hw
     cases hsrc
     simp only
     rw [R.miss hA fun k o hk ho => findW_none hw k o ho (by omega)]
     rfl
    ·rename_i k' hw
     obtain ⟨o',q1,_,q2,_⟩ := findW_some hw
     rcases Zb9 hsrc with ⟨hb,hsrc⟩ | ⟨_,hsrc⟩
     ·cases hsrc
      obtain ⟨x,hx,hg⟩ := R.hit hA hd (bit_lt hmi hb) (by simpa using q1) q2
      simp only [hx,hg]
     ·replace hsrc := Zas hsrc; obtain ⟨hb,hsrc⟩ := hsrc
      cases hsrc
      have hk' : okOne Γ l (Zbj l) k' o' = true := by
       have := Zey Γ hA (j := k') (by simpa using q1)
       rwa [Nat.zero_add] at this
      have hik := bit_lt (Zcz hk').1 hb
      simp only
      have hno : ∀ (k : Nat) (o : Oper),k < i → l[k]? = some o → o.dst ≠ some t := fun k o hk ho hdo => by
       have := Zfb hd k k' o o' t ho (by simpa using q1) hdo q2
       omega
      rw [R.miss hA hno]
      rfl
theorem RelD.add (hA : allO Γ l (Zbj l) l 0 = true) {st : DSt} {i : Nat} {e : Envs} {pd : List (Nat × SO)} {m : Mem} (R : RelD Γ l base e0 st i e pd m) {o : Oper} (ho : l[i]? = some o) {x : Ent}
  (hr : x.kd = .read → kcT Γ o.op = .r ∧ ∃ e1,mkEnv l (Zbj l) i e0 st.ents (Zes o.op) = some e1 ∧ ReadP Γ base st.ents (Cl.mk (Zbj l) i) e1 o.op x.v (st.abs,st.cur)) {pd' : List (Nat × SO)} (hp : pd' = pd ++ Zdb 0 [x] i) : RelD Γ l base e0 (st.add x) (i + 1) (putE o.dst x.v e) pd' m := by
 have hlt : i < l.length := (List.getElem?_eq_some_iff.1 ho).1
 have mask : ∀ (y : Nat) (o : Oper),l[y]? = some o → Cl.mk (Zbj l) y < 2 ^ y := fun y o hy => by
  have := Zey Γ hA hy
  rw [Nat.zero_add] at this
  exact (Zcz this).1
 refine ⟨by simp [DSt.add,R.len],hlt,?_,?_,R.cur,R.wf.addE x,fun k y hk => ?_,fun k hk => ?_,fun y o' x' hy hx' hk' => ?_⟩
 ·show _ = Zdk (l.take (i + 1)) (st.ents ++ [x]) e0
  have : l.take (i + 1) = l.take i ++ [o] := by rw [List.take_add_one,ho]; rfl
  rw [this,putAll_snoc _ _ _ _ _ (by rw [R.len,List.length_take]; omega),← R.env]
 ·show _ = Zdb st.abs (st.ents ++ [x]) 0
  rw [pendOf_append,← R.pd,hp,R.len,Nat.zero_add]
  congr 1
  simp only [Zdb]
  have h1 : bit st.abs i = false := by
   cases h : bit st.abs i with
   | false => rfl
   | true => exact absurd (R.abs i h) (Nat.lt_irrefl _)
  cases x.kd <;> first | rfl | simp only [h1,bit_zero]
 ·obtain ⟨h1,h2⟩ := R.main k y hk
  exact ⟨by omega,h2⟩
 ·have := R.abs k hk; omega
 ·rcases Nat.lt_or_ge y i with q | q
  ·have hx2 : st.ents[y]? = some x' := by
    have h3 : (st.ents ++ [x])[y]? = some x' := hx'
    rwa [List.getElem?_append_left (by rw [R.len]; exact q)] at h3
   obtain ⟨h1,e1,h2,j,qq,h3,h4,h5,h6⟩ := R.read y o' x' hy hx2 hk'
   exact ⟨h1,e1,mkEnv_more ⟨[x],rfl⟩ _ _ h2,j,qq,h3,h4,h5,readP_more (mask y o' hy) (by rw [R.len]; omega) h6⟩
  ·have hyl : y < (st.ents ++ [x]).length := (List.getElem?_eq_some_iff.1 hx').1
   have hyi : y = i := by simp [R.len] at hyl; omega
   subst hyi
   rw [ho] at hy; cases hy
   have h3 : (st.ents ++ [x])[y]? = some x' := hx'
   rw [List.getElem?_append_right (by rw [R.len]; omega),R.len,Nat.sub_self] at h3
   cases h3
   obtain ⟨h1,e1,h2,h6⟩ := hr hk'
   refine ⟨h1,e1,mkEnv_more ⟨[x],rfl⟩ _ _ h2,st.mains.length,(st.abs,st.cur),R.wf.cur,Nat.le_refl _,fun k z hk => ⟨fun _ => (R.main k z hk).1,fun _ => (List.getElem?_eq_some_iff.1 hk).1⟩,readP_more (mask y o ho) (by rw [R.len]; omega) h6⟩
theorem dop_ok (hA : allO Γ l (Zbj l) l 0 = true) (hd : Zch l = true) {st : DSt} {i : Nat} {e : Envs} {pd : List (Nat × SO)} {m : Mem} (R : RelD Γ l base e0 st i e pd m) {o : Oper} (ho : l[i]? = some o) (hw : Zen l (Zbj l) st.ents i o.guard = some true) {k : Envs → List (Nat × SO) → Mem → Option Rs} {r : Rs}
  (h : (dopC Γ (Zbj l) i o).g rec base e pd m k = some r) : ∃ st1 e1 pd1 m1,drawOp Γ rec l (Zbj l) base e0 i o st = some st1 ∧ RelD Γ l base e0 st1 (i + 1) e1 pd1 m1 ∧ k e1 pd1 m1 = some r := by
 have hok : okOne Γ l (Zbj l) i o = true := by
  have := Zey Γ hA ho
  rwa [Nat.zero_add] at this
 obtain ⟨hmi,hts,_,_,hH,hR⟩ := Zcz hok
 have hmk := RelD.mkE hA hd R hmi (Zes o.op) hts
 have hbl : Nat.blt (Cl.mk (Zbj l) i) (2 ^ i) = true := by rw [nblt]; exact decide_eq_true hmi
 have hseen : absorb base (bit (Cl.mk (Zbj l) i)) pd m.h = addP base (seen (Cl.mk (Zbj l) i) st.abs) st.ents 0 st.cur.h := by
  rw [R.pd,R.cur,absorb_eq]; rfl
 unfold dopC at h
 split at h
 ·simp only [restrC_eq,pureC_eq,putEC_eq] at h
  split at h
  ·rename_i e1 he1
   split at h
   ·rename_i v hv
    refine ⟨st.add ⟨v,.soft⟩,_,_,_,?_,R.add hA ho (x := ⟨v,.soft⟩) (by intro q; cases q) (by simp [Zdb]),h⟩
    unfold drawOp
    simp only [hbl,cond_true,hw,hmk,he1,hv]
   ·cases h
  ·cases h
 ·rename_i hk
  split at h
  ·rename_i d hdo
   simp only [restrC_eq,setC_eq,forceN_eq] at h
   split at h
   ·rename_i e1 he1
    split at h
    ·rename_i ob mk' hal
     refine ⟨st.add ⟨mk'.at (base + i),.alloc ob mk'⟩,e.set d (mk'.at (base + i)),_,_,?_,?_,h⟩
     ·unfold drawOp
      simp only [hbl,cond_true,hw,hmk,he1,(kc_a Γ hk e1 st.cur.h).1,hal,hdo]
     ·have := R.add hA ho (x := ⟨mk'.at (base + i),.alloc ob mk'⟩) (pd' := pd ++ [(i,ob)]) (by intro q; cases q) (by simp [Zdb,bit_zero])
      rw [hdo] at this
      exact this
    ·cases h
   ·cases h
  ·cases h
 ·rename_i hk
  simp only [restrC_eq,readC_eq,putEC_eq,hseen] at h
  split at h
  ·rename_i e1 he1
   split at h
   ·rename_i h' hadd
    split at h
    ·rename_i v hv
     refine ⟨st.add ⟨v,.read⟩,_,_,_,?_,R.add hA ho (x := ⟨v,.read⟩) (fun _ => ⟨hk,e1,by rw [hmk]; exact he1,h',hadd,hv⟩) (by simp [Zdb]),h⟩
     unfold drawOp
     simp only [hbl,cond_true,hw,hmk,he1,(kc_r Γ hk e1).1,(kc_r Γ hk e1).2,hadd,hv]
    ·cases h
   ·cases h
  ·cases h
 ·rename_i hk
  simp only [restrC_eq,heavyC_eq,putEC_eq,hseen,forceN_eq] at h
  split at h
  ·rename_i e1 he1
   split at h
   ·rename_i h' hadd
    split at h
    ·rename_i v m' hv
     have hall : st.mains.all (bit (Cl.mk (Zbj l) i)) = true := by
      rw [List.all_eq_true]
      intro y hy
      obtain ⟨kk,hkk⟩ := List.getElem?_of_mem hy
      obtain ⟨h1,oy,h2,h3⟩ := R.main kk y hkk
      have := allH_get Γ (hH hk) h2 h3
      rw [Nat.zero_add] at this
      simpa [nblt,h1] using this
     have hop : drawOp Γ rec l (Zbj l) base e0 i o st = some { ents := st.ents ++ [⟨v,.main⟩],mems := st.mems ++ [(Nat.lor st.abs (Cl.mk (Zbj l) i),m')],mains := st.mains ++ [i],abs := Nat.lor st.abs (Cl.mk (Zbj l) i),cur := m' } := by
      unfold drawOp
      have hv' : heavy Γ rec e1 ⟨h',st.cur.n⟩ o.op = some (v,m') := by rw [← R.cur]; exact hv
      simp only [hbl,cond_true,hw,hmk,he1,(kc_h Γ hk e1 h').1,(kc_h Γ hk e1 h').2.2,hadd,(kc_h Γ hk e1 h').2.1,hall,hv']
     obtain ⟨_,hle,hwf,hlen,_⟩ := drawOp_ok hop R.len R.wf
     have hlt : i < l.length := (List.getElem?_eq_some_iff.1 ho).1
     refine ⟨_,_,_,_,hop,⟨hlen,hlt,?_,?_,rfl,hwf,fun kk y hy => ?_,fun kk hb => ?_,fun y o' x' hy hx' hk' => ?_⟩,h⟩
     ·show _ = Zdk (l.take (i + 1)) (st.ents ++ [⟨v,.main⟩]) e0
      have : l.take (i + 1) = l.take i ++ [o] := by rw [List.take_add_one,ho]; rfl
      rw [this,putAll_snoc _ _ _ _ _ (by rw [R.len,List.length_take]; omega),← R.env]
     ·show _ = Zdb (Nat.lor st.abs (Cl.mk (Zbj l) i)) (st.ents ++ [⟨v,.main⟩]) 0
      rw [pendOf_append,R.pd,keepD_eq]
      simp [Zdb]
     ·have hy : (st.mains ++ [i])[kk]? = some y := hy
      rcases Nat.lt_or_ge kk st.mains.length with q | q
      ·rw [List.getElem?_append_left q] at hy
       obtain ⟨h1,h2⟩ := R.main kk y hy
       exact ⟨by omega,h2⟩
      ·rw [List.getElem?_append_right q] at hy
       have : y = i := by
        cases hq : kk - st.mains.length with
        | zero => rw [hq] at hy; simpa using hy.symm
        | succ n => rw [hq] at hy; simp at hy
       subst this
       exact ⟨Nat.lt_succ_self _,o,ho,hk⟩
     ·have hb : bit (Nat.lor st.abs (Cl.mk (Zbj l) i)) kk = true := hb
      rw [bit_lor,Bool.or_eq_true] at hb
      rcases hb with hb | hb
      ·have := R.abs kk hb; omega
      ·have := bit_lt hmi hb; omega
     ·rcases Nat.lt_or_ge y i with q | q
      ·have hx2 : st.ents[y]? = some x' := by
        have h3 : (st.ents ++ [⟨v,.main⟩])[y]? = some x' := hx'
        rwa [List.getElem?_append_left (by rw [R.len]; exact q)] at h3
       obtain ⟨h1,e2,h2,j,qq,h3,h4,h5,h6⟩ := R.read y o' x' hy hx2 hk'
       have hmy : Cl.mk (Zbj l) y < 2 ^ y := by
        have := Zey Γ hA hy
        rw [Nat.zero_add] at this
        exact (Zcz this).1
       refine ⟨h1,e2,mkEnv_more (ents := st.ents) (ents' := st.ents ++ [⟨v,.main⟩]) ⟨[⟨v,.main⟩],rfl⟩ _ _ h2,j,qq,Zdi hle.mems h3,by show j ≤ (st.mains ++ [i]).length; simp; omega,fun kk z hz => ?_,readP_more hmy (by rw [R.len]; omega) h6⟩
       have hz : (st.mains ++ [i])[kk]? = some z := hz
       rcases Nat.lt_or_ge kk st.mains.length with q2 | q2
       ·rw [List.getElem?_append_left q2] at hz
        exact h5 kk z hz
       ·rw [List.getElem?_append_right q2] at hz
        have : z = i := by
         cases hq : kk - st.mains.length with
         | zero => rw [hq] at hz; simpa using hz.symm
         | succ n => rw [hq] at hz; simp at hz
        subst this
        exact ⟨fun _ => by omega,fun _ => by omega⟩
      ·have hyl : y < (st.ents ++ [(⟨v,.main⟩ : Ent)]).length := (List.getElem?_eq_some_iff.1 hx').1
       have hyi : y = i := by simp [R.len] at hyl; omega
       subst hyi
       have h3 : (st.ents ++ [⟨v,.main⟩])[y]? = some x' := hx'
       rw [List.getElem?_append_right (by rw [R.len]; omega),R.len,Nat.sub_self] at h3
       cases h3
       cases hk'
    ·cases h
   ·cases h
  ·cases h
 ·cases h
theorem dg_ok (hA : allO Γ l (Zbj l) l 0 = true) (hd : Zch l = true) {st : DSt} {i : Nat} {e : Envs} {pd : List (Nat × SO)} {m : Mem} (R : RelD Γ l base e0 st i e pd m) {o : Oper} (ho : l[i]? = some o) {k : Envs → List (Nat × SO) → Mem → Option Rs} {r : Rs}
  (h : (dgC Γ l (Zbj l) i o).g rec base e pd m k = some r) : ∃ st1 e1 pd1 m1,drawOp Γ rec l (Zbj l) base e0 i o st = some st1 ∧ RelD Γ l base e0 st1 (i + 1) e1 pd1 m1 ∧ k e1 pd1 m1 = some r := by
 have hok : okOne Γ l (Zbj l) i o = true := by
  have := Zey Γ hA ho
  rwa [Nat.zero_add] at this
 obtain ⟨hmi,_,hg,_,_,_⟩ := Zcz hok
 have hbl : Nat.blt (Cl.mk (Zbj l) i) (2 ^ i) = true := by rw [nblt]; exact decide_eq_true hmi
 unfold dgC at h
 split at h
 ·rename_i hgn
  exact dop_ok hA hd R ho (by rw [hgn]; rfl) h
 ·rename_i q hgs
  obtain ⟨j,b⟩ := q
  split at h
  ·rename_i d b' hgc
   unfold guardC at hgc
   simp only at hgc
   split at hgc
   ·rename_i oj hj
    split at hgc
    ·rename_i d1 hdj
     cases hgc
     have hb := hg j b hgs
     obtain ⟨x,hx,hget⟩ := R.hit hA hd (bit_lt hmi hb) hj hdj
     split at h
     ·rename_i d' hd'
      simp only [getC_eq,hget,setC_eq] at h
      have skip : Zen l (Zbj l) st.ents i o.guard = some false → k (e.set d' Zfr) pd m = some r → ∃ st1 e1 pd1 m1,drawOp Γ rec l (Zbj l) base e0 i o st = some st1 ∧ RelD Γ l base e0 st1 (i + 1) e1 pd1 m1 ∧ k e1 pd1 m1 = some r := fun hw h => by
       refine ⟨st.add ⟨Zfr,.soft⟩,e.set d' Zfr,pd,m,?_,?_,h⟩
       ·unfold drawOp
        simp only [hbl,cond_true,hw,hd']
       ·have := R.add hA ho (x := ⟨Zfr,.soft⟩) (pd' := pd) (by intro q; cases q) (by simp [Zdb])
        rw [hd'] at this
        exact this
      have hwd : Zen l (Zbj l) st.ents i o.guard = match x.v with | .b c => some (c == b) | .tup [] => some false | _ => none := by
       rw [hgs]; simp only [Zen,hb,cond_true,hj,hdj,hx] <;> rfl
      cases hxv : x.v with
      | b c =>
       rw [hxv] at h hwd
       rcases Zb9 h with ⟨hcb,h⟩ | ⟨hcb,h⟩
       ·exact dop_ok hA hd R ho (by rw [hwd]; simp only [hcb]) h
       ·exact skip (by rw [hwd]; simp only [hcb]) h
      | tup lt =>
       rw [hxv] at h hwd
       cases lt with
       | nil => exact skip hwd h
       | cons _ _ => cases h
      | _ => rw [hxv] at h; cases h
     ·cases h
    ·cases hgc
   ·cases hgc
  ·cases h
theorem dops_ok (hA : allO Γ l (Zbj l) l 0 = true) (hd : Zch l = true) {k : Envs → List (Nat × SO) → Mem → Option Rs} {r : Rs} : ∀ (ro : List Oper) (i : Nat) (st : DSt) (e : Envs) (pd : List (Nat × SO)) (m : Mem),l.drop i = ro → RelD Γ l base e0 st i e pd m → (dopsC Γ l (Zbj l) ro i).g rec base e pd m k = some r →
  ∃ st1 e1 pd1 m1,Zed Γ rec l (Zbj l) base e0 ro i st = some st1 ∧ RelD Γ l base e0 st1 l.length e1 pd1 m1 ∧ k e1 pd1 m1 = some r
 | [],i,st,e,pd,m,hdr,R,h => by
  have hi : i = l.length := by
   have := congrArg List.length hdr
   rw [List.length_drop] at this
   have := R.le
   simp at *; omega
  subst hi
  exact ⟨st,e,pd,m,rfl,R,h⟩
 | o :: ro,i,st,e,pd,m,hdr,R,h => by
  have ho : l[i]? = some o := by
   have := congrArg (fun x => x[0]?) hdr
   simpa [List.getElem?_drop] using this
  have hdr2 : l.drop (i + 1) = ro := by
   have := congrArg (List.drop 1) hdr
   simpa [List.drop_drop] using this
  simp only [dopsC] at h
  obtain ⟨st1,e1,pd1,m1,h1,R1,h2⟩ := dg_ok hA hd R ho h
  obtain ⟨st2,e2,pd2,m2,h3,R2,h4⟩ := dops_ok hA hd ro (i + 1) st1 e1 pd1 m1 hdr2 R1 h2
  exact ⟨st2,e2,pd2,m2,by simp only [Zed,h1]; exact h3,R2,h4⟩
theorem compat_get {ms mains : List Nat} {i j : Nat} (h : compat ms mains i j = true) : (∀ k y,k < j → mains[k]? = some y → bit (mk ms y) i = false) ∧ (∀ k y,j ≤ k → mains[k]? = some y → bit (mk ms i) y = false) := by
 unfold compat at h
 simp only [Bool.and_eq_true,List.all_eq_true] at h
 refine ⟨fun k y hk hy => ?_,fun k y hk hy => ?_⟩
 ·have := h.1 y (List.mem_of_getElem? (i := k) (by rw [List.getElem?_take,if_pos hk]; exact hy))
  simpa using this
 ·have := h.2 y (List.mem_of_getElem? (i := k - j) (by rw [List.getElem?_drop,show j + (k - j) = k by omega]; exact hy))
  simpa using this
theorem RelD.reads (hA : allO Γ l (Zbj l) l 0 = true) {st : DSt} {e : Envs} {pd : List (Nat × SO)} {m : Mem} (R : RelD Γ l base e0 st l.length e pd m) : ReadsP Γ l base e0 st := fun y o x ho hx hk => by
 obtain ⟨h1,e1,h2,j,q,h3,h4,h5,h6⟩ := R.read y o x ho hx hk
 refine ⟨e1,h2,fun j' q' hq' hc => ?_⟩
 have mask : ∀ (y : Nat) (o : Oper),l[y]? = some o → okOne Γ l (Zbj l) y o = true := fun y o hy => by
  have := Zey Γ hA hy
  rwa [Nat.zero_add] at this
 have hord : ∀ (k z : Nat),st.mains[k]? = some z → (bit (Cl.mk (Zbj l) y) z || bit (Cl.mk (Zbj l) z) y) = true := fun k z hz => by
  obtain ⟨_,oz,g1,g2⟩ := R.main k z hz
  have := allH_get Γ ((Zcz (mask y o ho)).2.2.2.2.2 h1) g1 g2
  rwa [Nat.zero_add] at this
 obtain ⟨c1,c2⟩ := compat_get hc
 have hj' : j' ≤ st.mains.length := by
  have := (List.getElem?_eq_some_iff.1 hq').1
  rw [R.wf.len] at this; omega
 have hjj : j' = j := by
  rcases Nat.lt_trichotomy j' j with g | g | g
  ·exfalso
   have hz := List.getElem?_eq_getElem (show j' < st.mains.length by omega)
   have a1 := (h5 j' _ hz).1 g
   have a2 := c2 j' _ (Nat.le_refl _) hz
   have a3 := hord j' _ hz
   rw [a2,Bool.false_or] at a3
   obtain ⟨_,oz,g1,_⟩ := R.main j' _ hz
   have := bit_lt (Zcz (mask _ oz g1)).1 a3
   omega
  ·exact g
  ·exfalso
   have hz := List.getElem?_eq_getElem (show j < st.mains.length by omega)
   have a1 : ¬ st.mains[j] < y := fun q => by have := (h5 j _ hz).2 q; omega
   have a2 := c1 j _ g hz
   have a3 := hord j _ hz
   rw [a2,Bool.or_false] at a3
   have := bit_lt (Zcz (mask y o ho)).1 a3
   omega
 subst hjj
 rw [h3] at hq'; cases hq'
 exact h6
theorem drawC_ok {P : Program} {Ω : Opq} {N : Nat} {W : World} {F : Nat → Prop} {rs : List Res} {Gd : World → (Nat → Prop) → Prop} {n0 : Nat} {ρ0 : Rho} (hG : Gd W F) (hX : CtxExt P Ω Γ) (hΓ : Zdv P Γ) (hrec : ∀ f args m v m',rec (.call f args m) = some (.ret v m') → Zff P Ω Gd f args m v m') (hNt : N ≤ top) (hmix : P.follows .mixedOrders = true) {id : Nat} (hok : ∀ o ∈ l,Zfg N o = true) (hd : Zch l = true)
  {m0 : Mem} {e' : Envs} {m' : Mem} (h : (∃ st h',m0.n + l.length ≤ top ∧ Zed Γ rec l (Zbj l) m0.n e0 l 0 ⟨[],[(0,⟨m0.h,m0.n + l.length⟩)],[],0,⟨m0.h,m0.n + l.length⟩⟩ = some st ∧ ReadsP Γ l m0.n e0 st ∧ addP m0.n (fun k => !bit st.abs k) st.ents 0 st.cur.h = some h' ∧ e' = Zdk l st.ents e0 ∧ m' = ⟨h',st.cur.n⟩) ∨ drawEval Γ rec l e0 m0 = some (e',m'))
  {σ : Env} {w : World} (H : StE Ω W F rs n0 ρ0 e0 m0 σ w) {Q : Exit → Act → World → Prop} (hE : ∀ σ w,StE Ω W F rs n0 ρ0 e' m' σ w → E Q .normal N md0 σ w) : C P (.region id l.toArray true) Q N md0 σ w := by
 rcases h with ⟨st,h',htop,hloop,hreads,hadd,rfl,rfl⟩ | h
 ·exact draw_core hG hX hΓ hrec hNt hmix hok hd htop hloop hreads hadd H hE
 ·exact draw_ok hG hX hΓ hrec hNt hmix hok hd h H hE
theorem drawC_some {m : Mem} {k : Envs → Mem → Option Rs} {r : Rs} (hd : Zch l = true) (h : (drawC Γ l).g rec e0 m k = some r) : ∃ e' m',((∃ st h',m.n + l.length ≤ top ∧ Zed Γ rec l (Zbj l) m.n e0 l 0 ⟨[],[(0,⟨m.h,m.n + l.length⟩)],[],0,⟨m.h,m.n + l.length⟩⟩ = some st ∧ ReadsP Γ l m.n e0 st ∧ addP m.n (fun k => !bit st.abs k) st.ents 0 st.cur.h = some h' ∧ e' = Zdk l st.ents e0 ∧ m' = ⟨h',st.cur.n⟩) ∨ drawEval Γ rec l e0 m = some (e',m')) ∧ k e' m' = some r := by
 unfold drawC at h
 cases hA : allO Γ l (Zbj l) l 0 with
 | true =>
  rw [hA,cond_true] at h
  simp only [forceN_eq] at h
  replace h := Zas h; obtain ⟨htop,h⟩ := h
  have R0 : RelD Γ l m.n e0 ⟨[],[(0,⟨m.h,m.n + l.length⟩)],[],0,⟨m.h,m.n + l.length⟩⟩ 0 e0 [] ⟨m.h,m.n + l.length⟩ := by
   refine ⟨rfl,Nat.zero_le _,by simp [Zdk],rfl,rfl,?_,fun k y hk => by simp at hk,fun k hk => (by rw [bit_zero] at hk; cases hk),fun y o x _ hx => by simp at hx⟩
   refine ⟨rfl,rfl,fun k y hk => by simp at hk,fun k k' y y' _ hk => by simp at hk,fun j a m hj k hk => ?_⟩
   cases j with
   | zero => simp at hj; obtain ⟨rfl,_⟩ := hj; rw [bit_zero] at hk; cases hk
   | succ j => simp at hj
  obtain ⟨st,e1,pd1,m1,h1,R1,h2⟩ := dops_ok hA hd l 0 _ e0 [] _ (by simp) R0 h
  split at h2
  ·rename_i h' hab
   refine ⟨_,_,.inl ⟨st,h',Zca htop,h1,R1.reads hA,?_,?_,?_⟩,h2⟩
   ·rw [R1.pd,R1.cur,absorb_eq] at hab
    exact hab
   ·rw [R1.env,List.take_length]
   ·rw [R1.cur]
  ·cases h2
 | false =>
  rw [hA,cond_false] at h
  simp only at h
  split at h
  ·rename_i e' m' hv
   exact ⟨e',m',.inr hv,h⟩
  ·cases h
end
end
end Cr.Cl
namespace Cr.Cl
open Go Go.MapKept
set_option maxRecDepth 4000
noncomputable section
structure ResF where
 g : Envs → Heap → Option (List SV)
structure Res1F where
 g : Envs → Heap → Option SV
section
variable (Γ : Ctx)
def res1C : ResultVar → Res1F
 | .tmp t => ⟨fun e _ => (getC t).g e⟩
 | .cell a t => ⟨fun e h => match (getC a).g e with
  | some (.p o off) => loadS Γ h t o off
  | _ => none⟩
theorem res1C_eq (r : ResultVar) (e : Envs) (h : Heap) : (res1C Γ r).g e h = resS Γ e h r := by
 cases r with
 | tmp t => exact getC_eq t e
 | cell a t => simp only [res1C,resS,getC_eq] <;> rfl
def resC : List ResultVar → ResF
 | [] => ⟨fun _ _ => some []⟩
 | r :: l => ⟨fun e h => match (res1C Γ r).g e h with
  | some a => match (resC l).g e h with | some b => some (a :: b) | none => none
  | none => none⟩
theorem resC_eq (e : Envs) (h : Heap) : ∀ l : List ResultVar,(resC Γ l).g e h = resSs Γ e h l
 | [] => rfl
 | r :: l => by simp only [resC,resSs,res1C_eq,resC_eq e h l] <;> rfl
def codeC : Code → CF
 | .skip => ⟨fun _ e m k => k .n e m⟩
 | .label _ => ⟨fun _ e m k => k .n e m⟩
 | .region _ ops draw => bif draw then ⟨fun rec e m k => (drawC Γ ops.toList).g rec e m (k .n)⟩ else ⟨fun rec e m k => (opsC Γ ops.toList ops.toList).g rec e m (k .n)⟩
 | .seq a b => ⟨fun rec e m k => (codeC a).g rec e m (fun x e m => match x with | .n => (codeC b).g rec e m k | .r => k .r e m | .x i => k (.x i) e m)⟩
 | .cond c a b => ⟨fun rec e m k => match (Zfm c).g e with
  | some (.b t) => bif t then (codeC a).g rec e m k else (codeC b).g rec e m k
  | _ => none⟩
 | .block id b => ⟨fun rec e m k => (codeC b).g rec e m (fun x e m => match x with | .n => k .n e m | .r => k .r e m | .x i => bif Nat.beq i id then k .n e m else k (.x i) e m)⟩
 | .loop b => ⟨fun rec e m k => match rec (.loop b e m) with
  | some (.out x e m) => k x e m
  | _ => none⟩
 | .scope b => codeC b
 | .exit id => ⟨fun _ e m k => k (.x id) e m⟩
 | .ret => ⟨fun _ e m k => k .r e m⟩
 | _ => ⟨fun _ _ _ _ => none⟩
def funC (f : Nat) : FF := match Γ.nat.get f with
 | some nf => ⟨fun _ args m => match nf args m with
  | some (v,m) => some (.ret v m)
  | none => none⟩
 | none => match Γ.fn.get f with
  | some fn => match fn.body with
   | some body => ⟨fun rec args m => bif Nat.ble args.length fn.ntmps then (codeC Γ body).g rec (enumE 0 args .nil) m (fun x e m => match x with
    | .x _ => none
    | .n => (match (resC Γ fn.results.toList).g e m.h with | some l => some (.ret (retS l) m) | none => none)
    | .r => (match (resC Γ fn.results.toList).g e m.h with | some l => some (.ret (retS l) m) | none => none)) else none⟩
   | none => ⟨fun _ _ _ => none⟩
  | none => ⟨fun _ _ _ => none⟩
def stepC (rec : Job → Option Rs) : Job → Option Rs
 | .code c e m => (codeC Γ c).g rec e m (fun x e m => some (.out x e m))
 | .loop b e m => (codeC Γ b).g rec e m (fun x e m => match x with
  | .n => rec (.loop b e m)
  | .r => some (.out .r e m)
  | .x i => some (.out (.x i) e m))
 | .call f args m => (funC Γ f).g rec args m
def evalC (n : Nat) : Job → Option Rs := Nat.rec (motive := fun _ => Job → Option Rs) (fun _ => none) (fun _ ih j => stepC Γ ih j) n
end
section
variable {P : Program} {Γ : Ctx} {Ω : Opq} {Gd : World → (Nat → Prop) → Prop}
def JobC (P : Program) (Ω : Opq) (Gd : World → (Nat → Prop) → Prop) : Job → Rs → Prop
 | .loop c e m,.out x e' m' => JobS P Ω Gd (.loop c e m) (.out x e' m')
 | .call f args m,.ret v m' => Zff P Ω Gd f args m v m'
 | _,_ => True
theorem codeC_ok (hΓ : Zdv P Γ) (hX : CtxExt P Ω Γ) (hmix : P.follows .mixedOrders = true) {rec : Job → Option Rs} (hrec : ∀ j r,rec j = some r → JobC P Ω Gd j r) : ∀ (c : Code) (N : Nat) (e : Envs) (m : Mem) (k : Ex → Envs → Mem → Option Rs) (r : Rs),Zc5 N c = true → (codeC Γ c).g rec e m k = some r →
  ∃ x e' m',JobS P Ω Gd (.code c e m) (.out x e' m') ∧ k x e' m' = some r := by
 have hcall : ∀ f args m v m',rec (.call f args m) = some (.ret v m') → Zff P Ω Gd f args m v m' := fun f args m v m' h => hrec _ _ h
 intro c
 induction c with
 | skip =>
  intro N e m k r _ h
  exact ⟨.n,e,m,fun N _ _ W F _ rs n0 ρ0 σ w Q H hE => Zav (hE σ w H),h⟩
 | label =>
  intro N e m k r _ h
  exact ⟨.n,e,m,fun N _ _ W F _ rs n0 ρ0 σ w Q H hE => C_label (hE σ w H),h⟩
 | region id ops draw =>
  intro N0 e m k r hok0 h
  simp only [codeC] at h
  cases draw with
  | true =>
   simp only [Zc5,Bool.and_eq_true,cond_true] at hok0
   rw [cond_true] at h
   obtain ⟨e1,m1,h1,h2⟩ := drawC_some hok0.2 h
   refine ⟨.n,e1,m1,fun N hok hNt W F hG rs n0 ρ0 σ w Q H hE => ?_,h2⟩
   simp only [Zc5,Bool.and_eq_true,List.all_eq_true] at hok
   exact drawC_ok (id := id) (l := ops.toList) hG hX hΓ hcall hNt hmix hok.1 hok.2 h1 H hE
  | false =>
   rw [cond_false] at h
   obtain ⟨e1,m1,h1,h2⟩ := opsC_ok Γ rec ops.toList e m h
   refine ⟨.n,e1,m1,fun N hok hNt W F hG rs n0 ρ0 σ w Q H hE => ?_,h2⟩
   simp only [Zc5,Bool.and_eq_true,List.all_eq_true] at hok
   exact Zaa (l := ops.toList) (runOps_ok hG hX hΓ hcall hNt ops.toList e e1 m m1 σ w hok.1 h1 H hE)
 | seq a b iha ihb =>
  intro N0 e m k r hok0 h
  simp only [Zc5,Bool.and_eq_true] at hok0
  simp only [codeC] at h
  obtain ⟨x,e1,m1,h1,h2⟩ := iha N0 e m _ r hok0.1 h
  cases x with
  | n =>
   obtain ⟨x2,e2,m2,h3,h4⟩ := ihb N0 e1 m1 k r hok0.2 h2
   refine ⟨x2,e2,m2,fun N hok hNt W F hG rs n0 ρ0 σ w Q H hE => ?_,h4⟩
   simp only [Zc5,Bool.and_eq_true] at hok
   exact Zaj (h1 N hok.1 hNt W F hG rs n0 ρ0 σ w _ H fun σ1 w1 H1 => Zae (h3 N hok.2 hNt W F hG rs n0 ρ0 σ1 w1 Q H1 hE))
  | r =>
   refine ⟨.r,e1,m1,fun N hok hNt W F hG rs n0 ρ0 σ w Q H hE => ?_,h2⟩
   simp only [Zc5,Bool.and_eq_true] at hok
   exact Zaj (h1 N hok.1 hNt W F hG rs n0 ρ0 σ w _ H fun σ1 w1 H1 => Zar (hE σ1 w1 H1))
  | x i =>
   refine ⟨.x i,e1,m1,fun N hok hNt W F hG rs n0 ρ0 σ w Q H hE => ?_,h2⟩
   simp only [Zc5,Bool.and_eq_true] at hok
   exact Zaj (h1 N hok.1 hNt W F hG rs n0 ρ0 σ w _ H fun σ1 w1 H1 => Zaw (hE σ1 w1 H1))
 | cond c a b iha ihb =>
  intro N0 e m k r hok0 h
  simp only [Zc5,Bool.and_eq_true] at hok0
  simp only [codeC,Zc4] at h
  split at h
  ·rename_i t hc
   cases t with
   | true =>
    rw [cond_true] at h
    obtain ⟨x,e1,m1,h1,h2⟩ := iha N0 e m k r hok0.1 h
    refine ⟨x,e1,m1,fun N hok hNt W F hG rs n0 ρ0 σ w Q H hE => ?_,h2⟩
    simp only [Zc5,Bool.and_eq_true] at hok
    have H0 := H
    obtain ⟨ρ,_,henv,_⟩ := H
    obtain ⟨u,hu,hx⟩ := Zbk henv hc
    cases hu
    exact Zam hx (h1 N hok.1 hNt W F hG rs n0 ρ0 σ w Q H0 hE)
   | false =>
    rw [cond_false] at h
    obtain ⟨x,e1,m1,h1,h2⟩ := ihb N0 e m k r hok0.2 h
    refine ⟨x,e1,m1,fun N hok hNt W F hG rs n0 ρ0 σ w Q H hE => ?_,h2⟩
    simp only [Zc5,Bool.and_eq_true] at hok
    have H0 := H
    obtain ⟨ρ,_,henv,_⟩ := H
    obtain ⟨u,hu,hx⟩ := Zbk henv hc
    cases hu
    exact Zak hx (h1 N hok.2 hNt W F hG rs n0 ρ0 σ w Q H0 hE)
  ·cases h
 | block id b ih =>
  intro N0 e m k r hok0 h
  simp only [codeC] at h
  obtain ⟨x,e1,m1,h1,h2⟩ := ih N0 e m _ r hok0 h
  cases x with
  | n => exact ⟨.n,e1,m1,fun N hok hNt W F hG rs n0 ρ0 σ w Q H hE => Zat (h1 N hok hNt W F hG rs n0 ρ0 σ w _ H fun σ1 w1 H1 => Zbh (hE σ1 w1 H1)),h2⟩
  | r => exact ⟨.r,e1,m1,fun N hok hNt W F hG rs n0 ρ0 σ w Q H hE => Zat (h1 N hok hNt W F hG rs n0 ρ0 σ w _ H fun σ1 w1 H1 => Zbe (hE σ1 w1 H1)),h2⟩
  | x i =>
   rcases Zb9 h2 with ⟨hi,h3⟩ | ⟨hi,h3⟩
   ·have hi := Zcb hi
    subst hi
    exact ⟨.n,e1,m1,fun N hok hNt W F hG rs n0 ρ0 σ w Q H hE => Zat (h1 N hok hNt W F hG rs n0 ρ0 σ w _ H fun σ1 w1 H1 => Za1 (hE σ1 w1 H1)),h3⟩
   ·have hne : (i == id) = false := by rw [nbeq] at hi; simpa using hi
    exact ⟨.x i,e1,m1,fun N hok hNt W F hG rs n0 ρ0 σ w Q H hE => Zat (h1 N hok hNt W F hG rs n0 ρ0 σ w _ H fun σ1 w1 H1 => E_blk_ne hne (hE σ1 w1 H1)),h3⟩
 | loop b ih =>
  intro N0 e m k r hok0 h
  simp only [codeC] at h
  split at h
  ·rename_i x e1 m1 h1
   obtain ⟨n,hn⟩ := hrec _ _ h1
   refine ⟨x,e1,m1,fun N hok hNt W F hG rs n0 ρ0 σ w Q H hE => ?_,h⟩
   refine ⟨fun a ha => wpIn_loop_ghost (fun z a w => LoopI P N b Q z a w) (fun z => z) n (hn N hok hNt W F hG rs n0 ρ0 σ w Q a H hE ha) fun z a w hz => ?_⟩
   cases z with
   | zero => exact hz.elim
   | succ z =>
    refine wpIn_weaken (fun e a w he => ?_) hz
    cases e <;> first | exact he | exact ⟨z,he,Nat.lt_succ_self _⟩
  ·cases h
 | scope b ih =>
  intro N0 e m k r hok0 h
  obtain ⟨x,e1,m1,h1,h2⟩ := ih N0 e m k r hok0 h
  refine ⟨x,e1,m1,fun N hok hNt W F hG rs n0 ρ0 σ w Q H hE => ?_,h2⟩
  refine C_scope rfl (h1 N hok hNt W F hG rs n0 ρ0 σ w _ H fun σ1 w1 H1 => Zef (fun l => ?_) (hE σ1 w1 H1))
  cases x <;> simp [Ex.exit]
 | exit id =>
  intro N e m k r _ h
  exact ⟨.x id,e,m,fun N _ _ W F _ rs n0 ρ0 σ w Q H hE => Zb2 (hE σ w H),h⟩
 | ret =>
  intro N e m k r _ h
  exact ⟨.r,e,m,fun N _ _ W F _ rs n0 ρ0 σ w Q H hE => Za0 (hE σ w H),h⟩
 | _ => intro N e m k r hok h; first | (simp only [Zc5] at hok; cases hok) | cases h
theorem stepC_ok (hΓ : Zdv P Γ) (hF : CtxFn P Γ) (hN : CtxNat P Ω Gd Γ) (hX : CtxExt P Ω Γ) (hmix : P.follows .mixedOrders = true) {rec : Job → Option Rs} (hrec : ∀ j r,rec j = some r → JobC P Ω Gd j r) : ∀ j r,stepC Γ rec j = some r → JobC P Ω Gd j r := by
 intro j r h
 cases j with
 | code c e m => cases r <;> trivial
 | loop b e m =>
  simp only [stepC] at h
  by_cases hc : ∃ N,Zc5 N b = true
  ·obtain ⟨N0,hc⟩ := hc
   obtain ⟨x,e1,m1,h1,h2⟩ := codeC_ok hΓ hX hmix hrec b N0 e m _ r hc h
   cases x with
   | n =>
    have h3 := hrec _ _ h2
    cases r with
    | ret v m' => trivial
    | out x e' m' =>
     obtain ⟨k,hk⟩ := h3
     refine ⟨k + 1,fun N hok hNt W F hG rs n0 ρ0 σ w Q a H hE ha => ?_⟩
     exact (h1 N hok hNt W F hG rs n0 ρ0 σ w (Exit.then (LoopI P N b Q k) Q) H (fun σ1 w1 H1 => ⟨fun a1 ha1 => hk N hok hNt W F hG rs n0 ρ0 σ1 w1 Q a1 H1 hE ha1⟩)).run a ha
   | r =>
    cases h2
    refine ⟨1,fun N hok hNt W F hG rs n0 ρ0 σ w Q a H hE ha => ?_⟩
    exact (h1 N hok hNt W F hG rs n0 ρ0 σ w (Exit.then (LoopI P N b Q 0) Q) H (fun σ1 w1 H1 => Zar (hE σ1 w1 H1))).run a ha
   | x i =>
    cases h2
    refine ⟨1,fun N hok hNt W F hG rs n0 ρ0 σ w Q a H hE ha => ?_⟩
    exact (h1 N hok hNt W F hG rs n0 ρ0 σ w (Exit.then (LoopI P N b Q 0) Q) H (fun σ1 w1 H1 => Zaw (hE σ1 w1 H1))).run a ha
  ·cases r with
   | ret v m' => trivial
   | out x e' m' => exact ⟨0,fun N hok => absurd ⟨N,hok⟩ hc⟩
 | call f args m =>
  simp only [stepC] at h
  unfold funC at h
  split at h
  ·rename_i nf hnf
   simp only at h
   split at h
   ·rename_i v m' hr
    cases h
    exact hN f nf hnf args m v m' hr
   ·cases h
  ·split at h
   ·rename_i fn hfn
    split at h
    ·rename_i body hbody
     simp only at h
     replace h := Zas h; obtain ⟨hle,h⟩ := h
     obtain ⟨hf,hFun,hNt,hcode⟩ := hF f fn hfn
     obtain ⟨x,e1,m1,h1,h2⟩ := codeC_ok hΓ hX hmix hrec body fn.ntmps _ m _ r (hcode body hbody) h
     have fin : ∀ l,(x = .n ∨ x = .r) → resSs Γ e1 m1.h fn.results.toList = some l → Zff P Ω Gd f args m (retS l) m1 := by
      intro l hx hl
      refine ⟨hFun,fun W F hG rs ρ vs w hv hb ht hS => ?_⟩
      have hlen := RepL.length hv
      have hle' := Zca hle
      refine Zaq hf hbody rfl (by rw [hlen]; exact hle) (h1 fn.ntmps (hcode body hbody) hNt W F hG rs m.n ρ (enum 0 vs) w _ ⟨ρ,Rho.ext.rfl,enum_env hv (by omega),hb,ht,hS⟩ fun σ1 w1 H1 => ⟨fun a ha => ?_⟩)
      obtain ⟨ρ',hext,henv,hb',ht',hS'⟩ := H1
      obtain ⟨v,hv1,hrun⟩ := results_ok hΓ henv (St.heapRd hS') ha hl
      have := BP_end (P := P) (fn := fn) (R := Ret fun u w' => ∃ ρ',ρ.ext m.n m1.n ρ' ∧ ρ'.below m1.n ∧ m1.n ≤ top ∧ Rep ρ' (retS l) u ∧ St W F (res Ω ρ' m1.h ++ rs) w') ha.defers hrun (Ret.mk ⟨ρ',hext,hb',ht',hv1,hS'⟩)
      rcases hx with rfl | rfl
      ·exact this.2
      ·exact this.1
     cases x with
     | x i => cases h2
     | n =>
      simp only [resC_eq] at h2
      split at h2
      ·rename_i l hl
       cases h2
       exact fin l (.inl rfl) hl
      ·cases h2
     | r =>
      simp only [resC_eq] at h2
      split at h2
      ·rename_i l hl
       cases h2
       exact fin l (.inr rfl) hl
      ·cases h2
    ·cases h
   ·cases h
theorem evalC_ok (hΓ : Zdv P Γ) (hF : CtxFn P Γ) (hN : CtxNat P Ω Gd Γ) (hX : CtxExt P Ω Γ) (hmix : P.follows .mixedOrders = true) : ∀ n j r,evalC Γ n j = some r → JobC P Ω Gd j r
 | 0,_,_,h => by cases h
 | n + 1,j,r,h => stepC_ok hΓ hF hN hX hmix (fun j r h => evalC_ok hΓ hF hN hX hmix n j r h) j r h
end
end
end Cr.Cl
