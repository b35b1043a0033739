/-
  Closed runs,14: one evaluation serves every order ('draw_ok'). Over any program.
  Closed runs,15: a statement that draws its order,evaluated once ('draw_ok'). Over any program.
  Closed runs,16: code,loops,calls: what the evaluator finds is what the run does ('evalN_ok'). Over any program.
  Closed runs,17: the evaluator in stages. What hangs on the code alone stands ahead of what hangs on the state (in structures' fields),so that the kernel finds it once. It answers as the evaluator does. No program is in sight.
  Closed runs,18: a statement that draws its order,in stages: where its parts' kinds and order (found once) show that one order serves for all. No program is in sight.
-/
import Derived.Test.YteonaddammjopaaGreatDoorCgl13
namespace Cr.Cl
open Go Go.MapKept
set_option maxRecDepth 4000
theorem Zkr {listed : Array Bool} {i : Nat} (hi : i < listed.size) (k : Nat) : (listed.setIfInBounds i true).getD k false = (listed.getD k false || decide (k = i)) := by
 by_cases h : k = i
 ·subst h
  simp [Array.getD,hi]
 ·have : i ≠ k := fun e => h e.symm
  rw [getD_set_ne false this]
  simp [h]
theorem Ziw {m i k : Nat} (h : m < 2 ^ i) (hk : i ≤ k) : bit m k = false := Nat.testBit_lt_two_pow (Nat.lt_of_lt_of_le h (Nat.pow_le_pow_right (by omega) hk))
section
variable {P : Program} {Γ : Ctx} {Ω : Opq} {N : Nat} {W : World} {F : Nat → Prop} {rs : List Res} {rec : Job → Option Rs} {l : List Oper} {base : Nat} {e0 : Envs} {st : DSt} {n0 : Nat} {ρ0 : Rho} {Gd : World → (Nat → Prop) → Prop}
def left (listed : Array Bool) (abs k : Nat) : Bool := listed.getD k false && !bit abs k
structure InvD (Ω : Opq) (W : World) (F : Nat → Prop) (rs : List Res) (N : Nat) (l : List Oper) (base : Nat) (e0 : Envs) (st : DSt) (n0 : Nat) (ρ0 : Rho) (listed : Array Bool) (j : Nat) (a : Act) (w : World) : Prop where
 size : listed.size = l.length
 closed : Closed l.toArray listed
 mains : ∀ (k y : Nat),st.mains[k]? = some y → (listed.getD y false = true ↔ k < j)
 run : ∃ ρ σ abs m,st.mems[j]? = some (abs,m) ∧ Fr σ N md0 a ∧ ρ0.ext n0 m.n ρ ∧ EnvD l st.ents e0 (fun k => listed.getD k false = true) ρ σ ∧ ρ.below m.n ∧
  (∀ (k : Nat) (x : Ent) ob mk,st.ents[k]? = some x → x.kd = .alloc ob mk → listed.getD k false = false → ρ (base + k) = none) ∧ m.n ≤ top ∧ base + l.length ≤ m.n ∧
  St W F (resL Ω ρ (Zcz base (left listed abs) st.ents 0 ++ m.h.toList) ++ rs) w
theorem Zk9 (ρ : Rho) (a b : List (Nat × SO)) : resL Ω ρ (a ++ b) = resL Ω ρ a ++ resL Ω ρ b := List.map_append ..
theorem mid {listed : Array Bool} {abs mask : Nat} {m : Heap} {h' : Heap} {ρ : Rho} {w : World} {pre : List Ent} (hS : St W F (resL Ω ρ (Zcz base (left listed abs) st.ents 0 ++ m.toList) ++ rs) w)
  (hmask : ∀ k,bit mask k = true → listed.getD k false = true) (hp : ∃ t,st.ents = pre ++ t) (hz : ∀ k,pre.length ≤ k → bit mask k = false) (hadd : addP base (seen mask abs) pre 0 m = some h') :
  St W F (res Ω ρ h' ++ (resL Ω ρ (Zcz base (left listed (Nat.lor abs mask)) st.ents 0) ++ rs)) w := by
 have h1 := Zm6 base (left listed abs) (bit mask) st.ents 0
 have e1 : Zcz base (fun n => left listed abs n && bit mask n) st.ents 0 = Zcz base (seen mask abs) pre 0 := by
  obtain ⟨t,ht⟩ := hp
  have : Zcz base (fun n => left listed abs n && bit mask n) st.ents 0 = Zcz base (seen mask abs) st.ents 0 := by
   congr 1
   funext k
   unfold left seen
   cases hb : bit mask k with
   | false => simp
   | true => simp [hmask k hb]
  rw [this,ht,Zjr,Zi5 base t _ fun n => ?_,List.append_nil]
  unfold seen
  rw [hz _ (by omega)]; rfl
 have e2 : Zcz base (fun n => left listed abs n && !bit mask n) st.ents 0 = Zcz base (left listed (Nat.lor abs mask)) st.ents 0 := by
  congr 1
  funext k
  unfold left
  rw [Zgh]
  cases listed.getD k false <;> cases bit abs k <;> cases bit mask k <;> rfl
 rw [e1,e2] at h1
 have h2 := Zg7 hadd
 have perm : (Zcz base (left listed abs) st.ents 0 ++ m.toList).Perm (h'.toList ++ Zcz base (left listed (Nat.lor abs mask)) st.ents 0) := by
  refine (h1.append_right _).trans ?_
  rw [List.append_assoc]
  refine (List.Perm.append_left _ List.perm_append_comm).trans ?_
  rw [← List.append_assoc]
  exact (h2.symm).append_right _
 have := St.permH perm hS
 rw [Zk9,List.append_assoc] at this
 exact this
theorem Zfu {S : Nat → Prop} {ρ : Rho} {σ : Env} (H : EnvD l st.ents e0 S ρ σ) {pre : List Ent} (hp : ∃ t,st.ents = pre ++ t) {i : Nat} {o : Oper} (hmask : ∀ k,bit (mk (Zbn l) i) k = true → S k) {b : Bool} (hw : Zes l (Zbn l) pre i o.guard = some b) {ds : Md} {a : Act} (ha : Fr σ N ds a) :
  Region.wanted o (yielded l.toArray a.tmps) = b := by
 unfold Zes at hw
 split at hw
 ·rename_i hg
  cases hw
  simp [Region.wanted,hg]
 ·rename_i j c hg
  replace hw := Zar hw; obtain ⟨hb,hw⟩ := hw
  split at hw
  ·rename_i oj hj
   split at hw
   ·rename_i d hd
    split at hw
    ·rename_i x hx
     obtain ⟨u,hu,hlk⟩ := H.done j oj x d (hmask j hb) hj hd (Zdo hp hx)
     split at hw
     ·rename_i c' hv
      rw [hv] at hu; cases hu
      cases hw
      exact Zel hg (by simp [hj,hd]) hlk ha
     ·rename_i hv
      rw [hv] at hu
      obtain ⟨us,hus,rfl⟩ := hu
      cases hus
      cases hw
      exact Zjk hg (by simp [hj,hd]) hlk ha
     ·cases hw
    ·cases hw
   ·cases hw
  ·cases hw
theorem compat_all {ms mains : List Nat} {i j : Nat} (h1 : ∀ k y,k < j → mains[k]? = some y → bit (mk ms y) i = false) (h2 : ∀ k y,j ≤ k → mains[k]? = some y → bit (mk ms i) y = false) : Zj1 ms mains i j = true := by
 unfold Zj1
 simp only [Bool.and_eq_true,List.all_eq_true]
 refine ⟨fun y hy => ?_,fun y hy => ?_⟩
 ·obtain ⟨k,hk⟩ := List.getElem?_of_mem hy
  rw [List.getElem?_take] at hk
  split at hk
  ·rename_i q; simp [h1 k y q hk]
  ·cases hk
 ·obtain ⟨k,hk⟩ := List.getElem?_of_mem hy
  rw [List.getElem?_drop] at hk
  simp [h2 (j + k) y (by omega) hk]
theorem Zm3 {ms : List Nat} {i : Nat} {e : Envs} {op : Op} {v : SV} : ∀ (qs : List (Nat × Mem)) (j0 : Nat),Zlc Γ ms base st i e op v qs j0 = true → ∀ (j : Nat) (q : Nat × Mem),qs[j]? = some q → Zj1 ms st.mains i (j0 + j) = true → readAt Γ base st.ents (mk ms i) e op v q = true
 | [],_,_,j,q,hq,_ => by simp at hq
 | x :: r,j0,h,j,q,hq,hc => by
  simp only [Zlc,Bool.and_eq_true] at h
  cases j with
  | zero =>
   simp at hq; subst hq
   simp only [Nat.add_zero] at hc
   rw [hc,cond_true] at h; exact h.1
  | succ j => exact Zm3 r (j0 + 1) h.2 j q (by simpa using hq) (by rw [show j0 + 1 + j = j0 + (j + 1) by omega]; exact hc)
theorem Zm2 : ∀ (r : List Oper) (xs : List Ent) (i0 : Nat),Zlb Γ l (Zbn l) base e0 st r xs i0 = true → ∀ (i : Nat) (o : Oper) (x : Ent),r[i]? = some o → xs[i]? = some x → x.kd = .read →
  ∃ e,Zgp l (Zbn l) (i0 + i) e0 st.ents (Zex o.op) = some e ∧ Zlc Γ (Zbn l) base st (i0 + i) e o.op x.v st.mems 0 = true
 | [],_,_,_,i,o,x,ho,_,_ => by simp at ho
 | _ :: _,[],_,_,i,o,x,_,hx,_ => by simp at hx
 | a :: r,b :: xs,i0,h,i,o,x,ho,hx,hk => by
  simp only [Zlb,Bool.and_eq_true] at h
  cases i with
  | zero =>
   simp at ho hx; subst ho; subst hx
   have h1 := h.1
   rw [hk] at h1
   simp only at h1
   split at h1
   ·rename_i e he
    exact ⟨e,he,h1⟩
   ·cases h1
  | succ i =>
   have := Zm2 r xs (i0 + 1) h.2 i o x (by simpa using ho) (by simpa using hx) hk
   rw [show i0 + 1 + i = i0 + (i + 1) by omega] at this
   exact this
def ReadP (Γ : Ctx) (base : Nat) (ents : List Ent) (mask : Nat) (e : Envs) (op : Op) (v : SV) (q : Nat × Mem) : Prop := ∃ h,addP base (seen mask q.1) ents 0 q.2.h = some h ∧ Zfx Γ e h op = some v
def Znq (Γ : Ctx) (l : List Oper) (base : Nat) (e0 : Envs) (st : DSt) : Prop := ∀ (i : Nat) (o : Oper) (x : Ent),l[i]? = some o → st.ents[i]? = some x → x.kd = .read →
 ∃ e,Zgp l (Zbn l) i e0 st.ents (Zex o.op) = some e ∧ ∀ (j : Nat) (q : Nat × Mem),st.mems[j]? = some q → Zj1 (Zbn l) st.mains i j = true → ReadP Γ base st.ents (mk (Zbn l) i) e o.op x.v q
theorem readsP_of (h : Zlb Γ l (Zbn l) base e0 st l st.ents 0 = true) : Znq Γ l base e0 st := fun i o x ho hx hk => by
 obtain ⟨e,he,hall⟩ := Zm2 l st.ents 0 h i o x ho hx hk
 rw [Nat.zero_add] at he hall
 refine ⟨e,he,fun j q hq hc => ?_⟩
 have hr := Zm3 st.mems 0 hall j q hq (by rw [Nat.zero_add]; exact hc)
 unfold readAt at hr
 split at hr
 ·rename_i h' hadd
  split at hr
  ·rename_i v' hv'
   have := Zqs _ _ hr
   subst this
   exact ⟨h',hadd,hv'⟩
  ·cases hr
 ·cases hr
theorem Zpk {p p' : Nat → Bool} {ob : SO} {mk' : Mk} {x : Ent} (hk : x.kd = .alloc ob mk') {i : Nat} (hp : p i = false) (hp' : p' i = true) (hne : ∀ n,n ≠ i → p' n = p n) : ∀ (ents : List Ent) (k : Nat),k ≤ i → ents[i - k]? = some x → (Zcz base p' ents k).Perm ((base + i,ob) :: Zcz base p ents k)
 | [],k,_,h => by simp at h
 | y :: r,k,hki,h => by
  by_cases q : k = i
  ·subst q
   simp at h; subst h
   have e : Zcz base p' r (k + 1) = Zcz base p r (k + 1) := Ze8 base r (k + 1) fun n _ _ _ _ _ => hne _ (by omega)
   simp only [Zcz,hk,hp,hp',cond_true,cond_false,List.nil_append,e]
   exact .refl _
  ·have ih := Zpk hk hp hp' hne r (k + 1) (by omega) (by rw [show i - k = (i - (k + 1)) + 1 by omega] at h; simpa using h)
   simp only [Zcz,hne k q]
   cases y.kd with
   | alloc ob2 mk2 => exact (List.Perm.append_left _ ih).trans List.perm_middle
   | _ => exact ih
theorem St.monoQ {w : World} {ρ ρ' : Rho} (H : ρ.le ρ') {q : Res} {L : List (Nat × SO)} (hS : St W F (q :: (resL Ω ρ L ++ rs)) w) : St W F (q :: (resL Ω ρ' L ++ rs)) w :=
 hS.imp fun _ hg => hg.mono_tail fun g hg => Sep.monoL (fun q h hh => resO.mono H q.1 q.2 h hh) L rs g hg
theorem drawStep (hG : Gd W F) (hX : Zhv P Ω Γ) (hb0 : n0 ≤ base) (hΓ : Zd0 P Γ) (hrec : ∀ f args m v m',rec (.call f args m) = some (.ret v m') → Zfj P Ω Gd f args m v m') (hok : ∀ o ∈ l,Zfk N o = true) (hd : Zcl l = true) (hwf : Wf (Zbn l) st) (hlen : st.ents.length = l.length)
  (hfact : ∀ (k : Nat) (o : Oper),l[k]? = some o → mk (Zbn l) k < 2 ^ k ∧ ∃ x,st.ents[k]? = some x ∧ FactD Γ rec l base e0 st k o x) (hreads : Znq Γ l base e0 st)
  {listed : Array Bool} {j : Nat} {a : Act} {w : World} (H : InvD Ω W F rs N l base e0 st n0 ρ0 listed j a w) {i : Nat} (hi : i ∈ Region.ready .any l.toArray listed) {Q : Act → World → Prop} :
  wpOp P l.toArray (Zhl Q) i (fun a' w' => ∃ j',InvD Ω W F rs N l base e0 st n0 ρ0 (listed.setIfInBounds i true) j' a' w') a w := by
 obtain ⟨hun,o,ho,hall⟩ := mem_ready.1 hi
 have ho' : l[i]? = some o := by simpa using ho
 have hlt : i < listed.size := by rw [H.size]; exact (List.getElem?_eq_some_iff.1 ho').1
 have hunf : listed.getD i false = false := by
  rw [Array.getD_eq_getD_getElem?] at hun ⊢
  rw [Array.getElem?_eq_getElem hlt] at hun ⊢
  simpa using hun
 obtain ⟨hm2,x,hx,hf⟩ := hfact i o ho'
 have hmask : ∀ k,bit (mk (Zbn l) i) k = true → listed.getD k false = true := fun k hk => Zoa H.closed hi hk
 have hcl : ∀ (k : Nat) (o : Oper),l[k]? = some o → listed.getD k false = true → ∀ j,bit (mk (Zbn l) k) j = true → listed.getD j false = true := fun k o h1 h2 j h3 => Zmo H.closed h1 h2 h3
 have hmem : o ∈ l := List.mem_of_getElem? ho'
 have hoo := hok o hmem
 have hN : Zrk N o.dst := fun k hk => by
  simp only [Zfk,hk,Bool.and_eq_true] at hoo; exact hoo.1
 have hset := Zkr (listed := listed) hlt
 have hSS : ∀ k,(listed.setIfInBounds i true).getD k false = true ↔ listed.getD k false = true ∨ k = i := fun k => by rw [hset]; simp
 obtain ⟨ρ,σ,abs,m,hmj,ha,hext,henv,hbel,hfree,htop,hbase,hS⟩ := H.run
 have hni : ¬ (listed.getD i false = true) := by rw [hunf]; simp
 -- a soft one
 have soft : (∀ ob mk,x.kd ≠ .alloc ob mk) → x.kd ≠ .main → ∀ u,Rep ρ x.v u → ∀ a',Fr (putV o.dst u σ) N md0 a' → InvD Ω W F rs N l base e0 st n0 ρ0 (listed.setIfInBounds i true) j a' w := by
  intro hna hnm u hu a' ha'
  refine ⟨by rw [Array.size_setIfInBounds]; exact H.size,H.closed.set hi,fun k y hk => ?_,ρ,putV o.dst u σ,abs,m,hmj,ha',hext,henv.add hd ho' hx hSS hu,hbel,fun k y ob mk' h1 h2 h3 => ?_,htop,hbase,?_⟩
  ·have hyi : y ≠ i := fun q => by
    subst q
    obtain ⟨z,h1,h2⟩ := hwf.main k y hk
    rw [hx] at h1; cases h1
    exact hnm h2
   rw [hset,decide_eq_false hyi,Bool.or_false]
   exact H.mains k y hk
  ·refine hfree k y ob mk' h1 h2 ?_
   rw [hset] at h3
   simp only [Bool.or_eq_false_iff] at h3; exact h3.1
  ·have : Zcz base (left (listed.setIfInBounds i true) abs) st.ents 0 = Zcz base (left listed abs) st.ents 0 := by
    refine Ze8 base st.ents 0 fun n y ob mk' h1 h2 => ?_
    rw [Nat.zero_add]
    have hni : n ≠ i := fun q => by subst q; rw [hx] at h1; cases h1; exact hna _ _ h2
    unfold left
    rw [hset,decide_eq_false hni,Bool.or_false]
   rw [this]; exact hS
 have go : Region.wanted o (yielded l.toArray a.tmps) = true → X P o N md0 σ w (fun σ' w' => ∀ a',Fr σ' N md0 a' → ∃ j',InvD Ω W F rs N l base e0 st n0 ρ0 (listed.setIfInBounds i true) j' a' w') →
   wpOp P l.toArray (Zhl Q) i (fun a' w' => ∃ j',InvD Ω W F rs N l base e0 st n0 ρ0 (listed.setIfInBounds i true) j' a' w') a w := by
  intro hw hX
  unfold wpOp
  simp only [ho]
  rw [if_pos hw]
  exact .inl (hX.run a ha _ _ fun σ' w' a' ha' hk => hk a' ha')
 cases hf with
 | skip pre hp hw hx' =>
  have hwant := Zfu henv hp hmask hw ha
  unfold wpOp
  simp only [ho]
  rw [if_neg (by rw [hwant]; simp)]
  refine ⟨j,soft (by rw [hx']; intro _ _ q; cases q) (by rw [hx']; intro q; cases q) undef (by rw [hx']; exact ⟨[],rfl,rfl⟩) _ (Fr.putV ha hN undef)⟩
 | soft pre hp hw e he hk h =>
  have hE := Zim henv (fun k y hy => Zdo hp hy) hd hni hmask hcl _ e he
  refine go (Zfu henv hp hmask hw ha) ?_
  obtain ⟨u,hu,hy⟩ := Zpj (w := w) hΓ hE h
  exact Znp (fun a ha => .inl (hy.run N md0 a ha)) hN fun a' ha' => ⟨j,soft (by rw [hk]; intro _ _ q; cases q) (by rw [hk]; intro q; cases q) u hu a' ha'⟩
 | alloc pre hp hw e he ob mk' hk h hv hdn =>
  have hE := Zim henv (fun k y hy => Zdo hp hy) hd hni hmask hcl _ e he
  refine go (Zfu henv hp hmask hw ha) ?_
  have hfr := hfree i x ob mk' hx hk hunf
  cases hod : o.dst with
  | none => exact absurd hod hdn
  | some d =>
   refine Znm (Ω := Ω) hΓ hE h hfr hod (hN d hod) hS fun L u w' hu hS' a' ha' => ⟨j,?_⟩
   have hbi : base + i < m.n := by have := H.size; omega
   have hle := Rho.add_le (L := L) hfr
   have hn0 : n0 ≤ m.n := hext.2.2
   refine ⟨by rw [Array.size_setIfInBounds]; exact H.size,H.closed.set hi,fun k y hky => ?_,ρ.add (base + i) L,(d,u) :: σ,abs,m,hmj,ha',⟨hext.1.trans hle,fun q hq => ?_,hn0⟩,?_,fun q hq => ?_,fun k y ob2 mk2 h1 h2 h3 => ?_,htop,hbase,?_⟩
   ·have hyi : y ≠ i := fun q => by
     subst q
     obtain ⟨z,h1,h2⟩ := hwf.main k y hky
     rw [hx] at h1; cases h1
     rw [hk] at h2; cases h2
    rw [hset,decide_eq_false hyi,Bool.or_false]
    exact H.mains k y hky
   ·unfold Rho.add; rw [if_neg (by omega)]; exact hext.2.1 q hq
   ·have := (henv.mono hle).add (S' := fun k => (listed.setIfInBounds i true).getD k false = true) hd ho' hx hSS (u := u) (by rw [hv]; exact hu)
    rw [hod] at this
    exact this
   ·unfold Rho.add; rw [if_neg (by omega)]; exact hbel q hq
   ·rw [hset] at h3
    simp only [Bool.or_eq_false_iff,decide_eq_false_iff_not] at h3
    unfold Rho.add; rw [if_neg (by omega)]; exact hfree k y ob2 mk2 h1 h2 h3.1
   ·have habs : bit abs i = false := by
     cases hb : bit abs i with
     | false => rfl
     | true =>
      exfalso
      obtain ⟨k',y,g1,g2,g3⟩ := hwf.abs j abs m hmj i hb
      obtain ⟨z,z1,_⟩ := hwf.main k' y g2
      have hyy : y < l.length := by rw [← hlen]; exact (List.getElem?_eq_some_iff.1 z1).1
      exact hni (hcl y _ (List.getElem?_eq_getElem hyy) ((H.mains k' y g2).2 g1) i g3)
    have hperm := Zpk (base := base) (p := left listed abs) (p' := left (listed.setIfInBounds i true) abs) hk (i := i) (by unfold left; rw [hunf]; rfl) (by unfold left; rw [hset,habs]; simp) (fun n hn => by unfold left; rw [hset,decide_eq_false hn,Bool.or_false]) st.ents 0 (Nat.zero_le _) (by simpa using hx)
    have h7 := St.monoQ hle hS'
    exact St.permH (l := (base + i,ob) :: (Zcz base (left listed abs) st.ents 0 ++ m.h.toList)) (hperm.symm.append_right _) h7
 | read pre hp hw hk =>
  obtain ⟨e,he,hall2⟩ := hreads i o x ho' hx hk
  have hE := Zim henv (fun k y hy => hy) hd hni hmask hcl _ e he
  refine go (Zfu henv hp hmask hw ha) ?_
  have hc : Zj1 (Zbn l) st.mains i j = true := by
   refine compat_all (fun k y hk hy => ?_) fun k y hk hy => ?_
   ·cases hb : bit (mk (Zbn l) y) i with
    | false => rfl
    | true =>
     exfalso
     have hyl := (H.mains k y hy).2 hk
     obtain ⟨z,h1,_⟩ := hwf.main k y hy
     have hyy : y < l.length := by rw [← hlen]; exact (List.getElem?_eq_some_iff.1 h1).1
     exact hni (hcl y _ (List.getElem?_eq_getElem hyy) hyl i hb)
   ·cases hb : bit (mk (Zbn l) i) y with
    | false => rfl
    | true =>
     exfalso
     have := (H.mains k y hy).1 (hmask y hb)
     omega
  obtain ⟨h',hadd,hv'⟩ := hall2 j _ hmj hc
  have hS2 := mid hS hmask ⟨[],by simp⟩ (fun k hk => Ziw hm2 (by have := H.size; omega)) hadd
  obtain ⟨u,hu,hy⟩ := Zpg (w := w) hΓ hE (St.heapRd hS2) hv'
  exact Znp (fun a ha => .inl (hy.run N md0 a ha)) hN fun a' ha' => ⟨j,soft (by rw [hk]; intro _ _ q; cases q) (by rw [hk]; intro q; cases q) u hu a' ha'⟩
 | main pre hp hw e he hk k abs2 m2 m' h' hpl h1 h2 h3 h4 h5 h6 =>
  have hE := Zim henv (fun k y hy => Zdo hp hy) hd hni hmask hcl _ e he
  refine go (Zfu henv hp hmask hw ha) ?_
  have hkj : k = j := by
   rcases Nat.lt_trichotomy k j with q | q | q
   ·exact absurd ((H.mains k i h1).2 q) hni
   ·exact q
   ·have hjl : j < st.mains.length := by have := (List.getElem?_eq_some_iff.1 h1).1; omega
    have hy := List.getElem?_eq_getElem hjl
    have := (H.mains j _ hy).1 (hmask _ (h4 j _ q hy))
    omega
  subst hkj
  rw [hmj] at h2; cases h2
  have hS2 := mid hS hmask hp (fun k hk => Ziw hm2 (by omega)) h5
  refine Zsr (m := ⟨h',m.n⟩) hG hX hΓ hrec h6 hN hE hbel htop hS2 fun ρ' u w' r1 r2 r3 r4 r5 a' ha' => ⟨k + 1,?_⟩
  refine ⟨by rw [Array.size_setIfInBounds]; exact H.size,H.closed.set hi,fun k' y hky => ?_,ρ',putV o.dst u σ,_,m',h3,ha',hext.trans r1,(henv.mono r1.1).add hd ho' hx hSS r4,r2,fun q y ob mk' g1 g2 g3 => ?_,r3,by have := r1.2.2; simp only at this; omega,?_⟩
  ·rw [hset]
   by_cases hyi : y = i
   ·subst hyi
    have : k' = k := by
     rcases Nat.lt_trichotomy k' k with q | q | q
     ·have := hwf.inc k' k y y q hky h1; omega
     ·exact q
     ·have := hwf.inc k k' y y q h1 hky; omega
    subst this
    simp
   ·rw [decide_eq_false hyi,Bool.or_false,H.mains k' y hky]
    constructor
    ·intro q; omega
    ·intro q
     rcases Nat.lt_or_ge k' k with q2 | q2
     ·exact q2
     ·have : k' = k := by omega
      subst this
      rw [h1] at hky; cases hky
      exact absurd rfl hyi
  ·rw [hset] at g3
   simp only [Bool.or_eq_false_iff] at g3
   have hq : q < l.length := by rw [← hlen]; exact (List.getElem?_eq_some_iff.1 g1).1
   rw [r1.2.1 (base + q) (by show base + q < m.n; omega)]
   exact hfree q y ob mk' g1 g2 g3.1
  ·have e1 : Zcz base (left (listed.setIfInBounds i true) (Nat.lor abs (mk (Zbn l) i))) st.ents 0 = Zcz base (left listed (Nat.lor abs (mk (Zbn l) i))) st.ents 0 := by
    refine Ze8 base st.ents 0 fun n y ob mk' g1 g2 => ?_
    rw [Nat.zero_add]
    have hni : n ≠ i := fun q => by subst q; rw [hx] at g1; cases g1; rw [hk] at g2; cases g2
    unfold left
    rw [hset,decide_eq_false hni,Bool.or_false]
   rw [e1]
   have r6 : St W F (res Ω ρ' m'.h ++ (resL Ω ρ' (Zcz base (left listed (Nat.lor abs (mk (Zbn l) i))) st.ents 0) ++ rs)) w' := by
    refine r5.imp fun g hg => ?_
    have := Sep.perm (List.perm_append_comm_assoc ..) g hg
    refine Sep.perm (List.perm_append_comm_assoc ..) g ?_
    exact Sep.monoL (fun q h hh => resO.mono r1.1 q.1 q.2 h hh) _ _ g this
   refine r6.perm ?_
   rw [Zk9,List.append_assoc]
   exact List.perm_append_comm_assoc ..
theorem Zo1 (A : Array Bool → Act → World → Prop) {Q : Act → World → Prop} {ops : Array Oper} (hstep : ∀ listed a w,A listed a w → ∀ i ∈ Region.ready .any ops listed,wpOp P ops (Zhl Q) i (fun a' w' => A (listed.setIfInBounds i true) a' w') a w)
  (hend : ∀ listed a w,A listed a w → Region.ready .any ops listed = [] → Q a w) (hsize : ∀ listed a w,A listed a w → listed.size = ops.size) :
  ∀ (f : Nat) (listed : Array Bool) (a : Act) (w : World),(List.range ops.size).countP (fun i => !listed.getD i false) ≤ f → A listed a w → wpAny P .any ops (Zhl Q) f listed a w
 | 0,listed,a,w,hc,H => by
  have hr : Region.ready .any ops listed = [] := by
   apply List.eq_nil_iff_forall_not_mem.2
   intro i hi
   obtain ⟨hun,o,ho,_⟩ := mem_ready.1 hi
   have hlt : i < ops.size := (Array.getElem?_eq_some_iff.1 ho).1
   have := List.countP_eq_zero.1 (Nat.le_zero.1 hc) i (List.mem_range.2 hlt)
   rw [Array.getD_eq_getD_getElem?,Array.getElem?_eq_getElem (by rw [hsize _ _ _ H]; exact hlt)] at hun this
   simp at hun this
   rw [this] at hun; cases hun
  exact ⟨hr,hend _ _ _ H hr⟩
 | f + 1,listed,a,w,hc,H => by
  refine ⟨fun hr => hend _ _ _ H hr,fun i hi => wpOp_mono (fun a' w' H' => Zo1 A hstep hend hsize f _ a' w' ?_ H') (hstep _ _ _ H i hi)⟩
  obtain ⟨hun,o,ho,_⟩ := mem_ready.1 hi
  have hlt : i < ops.size := (Array.getElem?_eq_some_iff.1 ho).1
  have hls : i < listed.size := by rw [hsize _ _ _ H]; exact hlt
  have hlt2 : (List.range ops.size).countP (fun k => !(listed.setIfInBounds i true).getD k false) < (List.range ops.size).countP (fun k => !listed.getD k false) := by
   have key : ∀ (L : List Nat),i ∈ L → L.countP (fun k => !(listed.setIfInBounds i true).getD k false) < L.countP (fun k => !listed.getD k false) := by
    intro L
    induction L with
    | nil => intro h; cases h
    | cons y L ih =>
     intro hm
     have hle : ∀ L : List Nat,L.countP (fun k => !(listed.setIfInBounds i true).getD k false) ≤ L.countP (fun k => !listed.getD k false) := fun L => List.countP_mono_left fun k _ hk => by
      rw [Zkr hls] at hk
      cases hq : listed.getD k false with
      | false => rfl
      | true => rw [hq] at hk; simp at hk
     simp only [List.countP_cons]
     by_cases hyi : y = i
     ·subst hyi
      have h1 : (!(listed.setIfInBounds y true).getD y false) = false := by rw [Zkr hls]; simp
      have h2 : (!listed.getD y false) = true := by
       rw [Array.getD_eq_getD_getElem?,Array.getElem?_eq_getElem hls] at hun ⊢
       simp at hun ⊢; exact hun
      rw [h1,h2]
      have := hle L
      simp only [Bool.false_eq_true,if_false,if_true]; omega
     ·have hm' : i ∈ L := (List.mem_cons.1 hm).resolve_left fun e => hyi e.symm
      have := ih hm'
      have h1 : (!(listed.setIfInBounds i true).getD y false) = (!listed.getD y false) := by rw [Zkr hls,decide_eq_false hyi,Bool.or_false]
      rw [h1]
      omega
   exact key _ (List.mem_range.2 hlt)
  omega
end
end Cr.Cl
namespace Cr.Cl
open Go Go.MapKept
set_option maxRecDepth 4000
theorem Zs2 {ms : List Nat} : ∀ {es : List Edge} {e : Edge},e ∈ es → Region.binds .any e = true → bit (Zdu ms es) e.on = true
 | x :: r,e,h,hb => by
  simp only [Zdu]
  rcases List.mem_cons.1 h with rfl | h
  ·rw [hb,cond_true,Zgh,Zgh]
   have : bit (2 ^ e.on) e.on = true := by simp [bit]
   rw [this]; rfl
  ·have ih := Zs2 (ms := ms) h hb
   cases Region.binds .any x with
   | false => exact ih
   | true => rw [cond_true,Zgh,ih,Bool.or_true]
section
variable {P : Program} {Γ : Ctx} {Ω : Opq} {N : Nat} {W : World} {F : Nat → Prop} {rs : List Res} {rec : Job → Option Rs} {l : List Oper} {e0 : Envs} {n0 : Nat} {ρ0 : Rho} {Gd : World → (Nat → Prop) → Prop}
theorem Zpi {ρ : Rho} {σ : Env} : ∀ (r : List Oper) (xs : List Ent) (e : Envs),(∀ (k : Nat) (o : Oper) (x : Ent) (d : Nat),r[k]? = some o → xs[k]? = some x → o.dst = some d → d < top ∧ ∃ u,Rep ρ x.v u ∧ look σ d = some u) → xs.length = r.length →
  (∀ t s,e.get t = some s → (∀ (k : Nat) (o : Oper),r[k]? = some o → o.dst ≠ some t) → ∃ u,Rep ρ s u ∧ look σ t = some u) → EnvR ρ (Zdq r xs e) σ
 | [],xs,e,_,hl,h => by
  have : xs = [] := List.eq_nil_of_length_eq_zero (by simpa using hl)
  subst this
  exact fun n s hs => h n s hs fun k o hk => by simp at hk
 | o :: r,[],e,_,hl,_ => by simp at hl
 | o :: r,x :: xs,e,hd,hl,h => by
  simp only [Zdq]
  refine Zpi r xs _ (fun k o' x' d h1 h2 h3 => hd (k + 1) o' x' d (by simpa using h1) (by simpa using h2) h3) (by simpa using hl) fun t s hs hno => ?_
  cases hod : o.dst with
  | none =>
   rw [hod] at hs
   refine h t s hs fun k o' hk => ?_
   cases k with
   | zero => simp at hk; subst hk; rw [hod]; simp
   | succ k => exact hno k o' (by simpa using hk)
  | some d =>
   obtain ⟨hdt,u,hu,hlk⟩ := hd 0 o x d rfl rfl hod
   rw [hod] at hs
   have hs' : (e.set d x.v).get t = some s := hs
   rw [Envs.get_set x.v t hdt] at hs'
   split at hs'
   ·rename_i q; subst q; cases hs'; exact ⟨u,hu,hlk⟩
   ·rename_i q
    refine h t s hs' fun k o' hk => ?_
    cases k with
    | zero => simp at hk; subst hk; rw [hod]; intro q2; cases q2; exact q rfl
    | succ k => exact hno k o' (by simpa using hk)
theorem Zp3 (hG : Gd W F) (hX : Zhv P Ω Γ) (hΓ : Zd0 P Γ) (hrec : ∀ f args m v m',rec (.call f args m) = some (.ret v m') → Zfj P Ω Gd f args m v m') (hNt : N ≤ top) (hmix : P.follows .mixedOrders = true) {id : Nat} (hok : ∀ o ∈ l,Zfk N o = true) (hd : Zcl l = true) {m0 : Mem} {st : DSt} {h' : Heap}
  (htop : m0.n + l.length ≤ top) (hloop : Zei Γ rec l (Zbn l) m0.n e0 l 0 ⟨[],[(0,⟨m0.h,m0.n + l.length⟩)],[],0,⟨m0.h,m0.n + l.length⟩⟩ = some st) (hreads : Znq Γ l m0.n e0 st) (hadd : addP m0.n (fun k => !bit st.abs k) st.ents 0 st.cur.h = some h')
  {σ : Env} {w : World} (H : StE Ω W F rs n0 ρ0 e0 m0 σ w) {Q : Exit → Act → World → Prop} (hE : ∀ σ w,StE Ω W F rs n0 ρ0 (Zdq l st.ents e0) ⟨h',st.cur.n⟩ σ w → E Q .normal N md0 σ w) : C P (.region id l.toArray true) Q N md0 σ w := by
 obtain ⟨ρ,hext,henv,hbel,_,hS⟩ := H
 have hwf0 : Wf (Zbn l) ⟨[],[(0,⟨m0.h,m0.n + l.length⟩)],[],0,⟨m0.h,m0.n + l.length⟩⟩ := by
  refine ⟨rfl,rfl,fun k y hk => by simp at hk,fun k k' y y' _ hk => by simp at hk,fun j a m hj k hk => ?_⟩
  cases j with
  | zero => simp at hj; obtain ⟨rfl,_⟩ := hj; rw [Zgg] at hk; cases hk
  | succ j => simp at hj
 obtain ⟨hle,hwf,hlen,hfact⟩ := Zl0 l 0 _ st hloop rfl hwf0
 simp only [Nat.zero_add] at hlen hfact
 have hmem0 : st.mems[0]? = some (0,⟨m0.h,m0.n + l.length⟩) := Zdo hle.mems rfl
 refine Zr1 rfl fun a ha => wp_region_any hmix ?_
 refine Zgr (Q := Zhl (Q .normal)) (fun e a w hq => by cases e <;> first | exact hq | exact hq.elim) _ _ _ _ ?_
 refine Zo1 (fun listed a w => ∃ j,InvD Ω W F rs N l m0.n e0 st n0 ρ0 listed j a w) ?_ ?_ ?_ _ _ _ _ ?_ ?_
 ·intro listed a w ⟨j,HI⟩ i hi
  exact drawStep hG hX hext.2.2 hΓ hrec hok hd hwf hlen hfact hreads HI hi
 ·intro listed a w ⟨j,HI⟩ hr
  have hall : ∀ n i,i < n → i < l.length → listed.getD i false = true := by
   intro n
   induction n with
   | zero => intro i h; omega
   | succ n ih =>
    intro i hi hil
    cases hq : listed.getD i false with
    | true => rfl
    | false =>
     exfalso
     have ho : l[i]? = some l[i] := List.getElem?_eq_getElem hil
     have hmem : i ∈ Region.ready .any l.toArray listed := by
      refine mem_ready.2 ⟨?_,l[i],by simp [ho],fun e he hb => ?_⟩
      ·rw [Array.getD_eq_getD_getElem?,Array.getElem?_eq_getElem (by rw [HI.size]; exact hil)] at hq ⊢
       simpa using hq
      ·have h1 := (Zi6 l).2 i _ ho
       have h2 : bit (mk (Zbn l) i) e.on = true := by rw [mk,h1,Option.getD_some]; exact Zs2 (by simpa using he) hb
       have h3 : e.on < i := by
        rcases Nat.lt_or_ge e.on i with q | q
        ·exact q
        ·rw [Ziw (hfact i _ ho).1 q] at h2; cases h2
       exact ih e.on (by omega) (by omega)
     rw [hr] at hmem; cases hmem
  have hall' : ∀ i,i < l.length → listed.getD i false = true := fun i hi => hall (i + 1) i (Nat.lt_succ_self _) hi
  obtain ⟨ρ1,σ1,abs,m,hmj,ha1,hext1,henv1,hbel1,hfree1,htop1,hbase1,hS1⟩ := HI.run
  have hjl : j = st.mains.length := by
   have h1 : j < st.mems.length := (List.getElem?_eq_some_iff.1 hmj).1
   rw [hwf.len] at h1
   rcases Nat.lt_or_ge j st.mains.length with q | q
   ·exfalso
    have hy := List.getElem?_eq_getElem q
    obtain ⟨z,h2,_⟩ := hwf.main j _ hy
    have hyl : st.mains[j] < l.length := by rw [← hlen]; exact (List.getElem?_eq_some_iff.1 h2).1
    have := (HI.mains j _ hy).1 (hall' _ hyl)
    omega
   ·omega
  subst hjl
  rw [hwf.cur] at hmj
  cases hmj
  refine (hE σ1 w ⟨ρ1,hext1,?_,hbel1,htop1,?_⟩).run a ha1
  ·refine Zpi l st.ents e0 (fun k o x d h1 h2 h3 => ⟨?_,?_⟩) hlen fun t s hs hno => ?_
   ·have := hok o (List.mem_of_getElem? h1)
    simp only [Zfk,h3,Bool.and_eq_true] at this
    have := Zbp this.1
    omega
   ·exact henv1.done k o x d (hall' k (List.getElem?_eq_some_iff.1 h1).1) h1 h3 h2
   ·exact henv1.old t s hs fun k o _ hk => hno k o hk
  ·have e1 : Zcz m0.n (left listed st.abs) st.ents 0 = Zcz m0.n (fun k => !bit st.abs k) st.ents 0 := by
    refine Ze8 m0.n st.ents 0 fun n x ob mk' h1 _ => ?_
    have hn : n < l.length := by rw [← hlen]; exact (List.getElem?_eq_some_iff.1 h1).1
    rw [Nat.zero_add]
    unfold left
    rw [hall' n hn,Bool.true_and]
   rw [e1] at hS1
   exact St.permH (Zg7 hadd).symm hS1
 ·intro listed a w ⟨j,HI⟩
  simpa using HI.size
 ·exact Nat.le_trans List.countP_le_length (by simp)
 ·have hnone : ∀ k,(Array.replicate l.toArray.size false).getD k false = false := fun k => getD_replicate_false ..
  refine ⟨0,by simp,fun j oj _ hl => (by rw [getD_replicate_false] at hl; cases hl),fun k y _ => ⟨fun q => (by rw [hnone] at q; cases q),fun q => by omega⟩,ρ,σ,0,⟨m0.h,m0.n + l.length⟩,hmem0,ha,⟨hext.1,hext.2.1,by have := hext.2.2; show n0 ≤ m0.n + l.length; omega⟩,⟨fun k o x d hk => (by rw [hnone] at hk; cases hk),fun t s hs _ => henv t s hs⟩,fun o ho => hbel o (by have ho' : m0.n + l.length ≤ o := ho; omega),fun k x ob mk' _ _ _ => hbel _ (by omega),htop,Nat.le_refl _,?_⟩
  have e0 : Zcz m0.n (left (Array.replicate l.toArray.size false) 0) st.ents 0 = [] := Zi5 m0.n st.ents 0 fun n => by unfold left; rw [hnone]; rfl
  rw [e0,List.nil_append]
  exact hS.drew
theorem draw_ok (hG : Gd W F) (hX : Zhv P Ω Γ) (hΓ : Zd0 P Γ) (hrec : ∀ f args m v m',rec (.call f args m) = some (.ret v m') → Zfj P Ω Gd f args m v m') (hNt : N ≤ top) (hmix : P.follows .mixedOrders = true) {id : Nat} (hok : ∀ o ∈ l,Zfk N o = true) (hd : Zcl l = true) {e' : Envs} {m0 m' : Mem}
  (h : Ziu Γ rec l e0 m0 = some (e',m')) {σ : Env} {w : World} (H : StE Ω W F rs n0 ρ0 e0 m0 σ w) {Q : Exit → Act → World → Prop} (hE : ∀ σ w,StE Ω W F rs n0 ρ0 e' m' σ w → E Q .normal N md0 σ w) : C P (.region id l.toArray true) Q N md0 σ w := by
 unfold Ziu at h
 replace h := Zar h; obtain ⟨htop,h⟩ := h
 have htop := Zcd htop
 split at h
 ·rename_i st hloop
  replace h := Zar h; obtain ⟨hreads,h⟩ := h
  split at h
  ·rename_i h' hadd
   cases h
   exact Zp3 hG hX hΓ hrec hNt hmix hok hd htop hloop (readsP_of hreads) hadd H hE
  ·cases h
 ·cases h
end
end Cr.Cl
namespace Cr.Cl
noncomputable section
open Go Go.MapKept
set_option maxRecDepth 4000
def enumE : Nat → List SV → Envs → Envs
 | _,[],e => e
 | n,v :: l,e => enumE (n + 1) l (e.set n v)
section
variable (Γ : Ctx)
def resS (e : Envs) (h : Heap) : ResultVar → Option SV
 | .tmp t => e.get t
 | .cell a t => match e.get a with
  | some (.p o off) => Zra Γ h t o off
  | _ => none
def Zpf (e : Envs) (h : Heap) : List ResultVar → Option (List SV)
 | [] => some []
 | r :: l => match resS Γ e h r with
  | some a => match Zpf e h l with | some b => some (a :: b) | none => none
  | none => none
def retS : List SV → SV
 | [v] => v
 | l => .tup l
end
def Zc8 (N : Nat) : Code → Bool
 | .skip => true
 | .label _ => true
 | .region _ ops draw => ops.toList.all (Zfk N) && (bif draw then Zcl ops.toList else true)
 | .seq a b => Zc8 N a && Zc8 N b
 | .cond _ a b => Zc8 N a && Zc8 N b
 | .block _ b => Zc8 N b
 | .loop b => Zc8 N b
 | .scope b => Zc8 N b
 | .exit _ => true
 | .ret => true
 | _ => false
def CtxFn (P : Program) (Γ : Ctx) : Prop := ∀ g fn,Γ.fn.get g = some fn → P.funcs[g]? = some fn ∧ Fun P g ∧ fn.ntmps ≤ top ∧ ∀ body,fn.body = some body → Zc8 fn.ntmps body = true
def CtxNat (P : Program) (Ω : Opq) (Gd : World → (Nat → Prop) → Prop) (Γ : Ctx) : Prop := ∀ g nf,Γ.nat.get g = some nf → ∀ args m v m',nf args m = some (v,m') → Zfj P Ω Gd g args m v m'
def LoopI (P : Program) (N : Nat) (b : Code) (Q : Exit → Act → World → Prop) : Nat → Act → World → Prop
 | 0,_,_ => False
 | k + 1,a,w => b.wpIn (Fc md0) 0 P (Exit.then (LoopI P N b Q k) Q) a w
def JobS (P : Program) (Ω : Opq) (Gd : World → (Nat → Prop) → Prop) : Job → Rs → Prop
 | .code c e m,.out x e' m' => ∀ N,Zc8 N c = true → N ≤ top → ∀ (W : World) (F : Nat → Prop),Gd W F → ∀ (rs : List Res) (n0 : Nat) (ρ0 : Rho) (σ : Env) (w : World) (Q : Exit → Act → World → Prop),StE Ω W F rs n0 ρ0 e m σ w → (∀ σ w,StE Ω W F rs n0 ρ0 e' m' σ w → E Q x.exit N md0 σ w) → C P c Q N md0 σ w
 | .loop c e m,.out x e' m' => ∃ k,∀ N,Zc8 N c = true → N ≤ top → ∀ (W : World) (F : Nat → Prop),Gd W F → ∀ (rs : List Res) (n0 : Nat) (ρ0 : Rho) (σ : Env) (w : World) (Q : Exit → Act → World → Prop) (a : Act),StE Ω W F rs n0 ρ0 e m σ w → (∀ σ w,StE Ω W F rs n0 ρ0 e' m' σ w → E Q x.exit N md0 σ w) → Fr σ N md0 a → LoopI P N c Q k a w
 | .call f args m,.ret v m' => Zfj P Ω Gd f args m v m'
 | _,_ => False
section
variable {P : Program} {Γ : Ctx} {Ω : Opq} {Gd : World → (Nat → Prop) → Prop}
theorem Zpz : ∀ (args : List SV) (n : Nat) (e : Envs) (k : Nat),n + args.length ≤ top → (enumE n args e).get k = if n ≤ k ∧ k < n + args.length then args[k - n]? else e.get k
 | [],n,e,k,_ => by simp [enumE]; intro h1 h2; omega
 | v :: l,n,e,k,h => by
  simp only [List.length_cons] at h
  rw [enumE,Zpz l (n + 1) (e.set n v) k (by omega),Envs.get_set v k (by omega)]
  by_cases h1 : k = n
  ·subst h1; simp; intro h1; omega
  ·by_cases h2 : n + 1 ≤ k ∧ k < n + 1 + l.length
   ·rw [if_pos h2,if_pos (by simp only [List.length_cons]; omega),show k - n = (k - (n + 1)) + 1 by omega]
    simp
   ·rw [if_neg h2,if_neg h1,if_neg (by simp only [List.length_cons]; omega)]
theorem Zio : ∀ (l : List Value) (n k : Nat) (v : Value),n ≤ k → l[k - n]? = some v → look (enum n l) k = some v
 | [],n,k,v,_,h => by simp at h
 | u :: l,n,k,v,hk,h => by
  by_cases e : n = k
  ·subst e; simp at h; subst h; exact Zc9 _ _ _
  ·rw [enum,Zdh _ _ e]
   refine Zio l (n + 1) k v (by omega) ?_
   rw [show k - n = (k - (n + 1)) + 1 by omega] at h
   simpa using h
theorem enum_env {ρ : Rho} {args : List SV} {vs : List Value} (h : RepL ρ args vs) (ht : args.length ≤ top) : EnvR ρ (enumE 0 args .nil) (enum 0 vs) := fun k s hs => by
 rw [Zpz args 0 .nil k (by omega)] at hs
 split at hs
 ·rename_i hk
  obtain ⟨v,h1,h2⟩ := RepL.get h hs
  exact ⟨v,h2,Zio vs 0 k v (Nat.zero_le _) h1⟩
 ·rw [Envs.get_nil] at hs; cases hs
theorem resS_ok (hΓ : Zd0 P Γ) {ρ : Rho} {e : Envs} {σ : Env} {h : Heap} {w : World} (he : EnvR ρ e σ) (hR : Zhu Ω ρ h w) {r : ResultVar} {s : SV} (hs : resS Γ e h r = some s) : ∃ v,Rep ρ s v ∧ Rv P σ w r v := by
 unfold resS at hs
 split at hs
 ·rename_i t
  obtain ⟨v,h1,h2⟩ := he t s hs
  exact ⟨v,h1,h2⟩
 ·rename_i a t
  split at hs
  ·rename_i o off hg
   obtain ⟨u,⟨L,hL,rfl⟩,hlk⟩ := he a _ hg
   obtain ⟨L',v,q1,q2,q3⟩ := Zsk hΓ hR hs
   rw [hL] at q1; cases q1
   exact ⟨v,q2,_,hlk,q3⟩
  ·cases hs
theorem Zsb (hΓ : Zd0 P Γ) {ρ : Rho} {e : Envs} {σ : Env} {h : Heap} {w : World} (he : EnvR ρ e σ) (hR : Zhu Ω ρ h w) {N : Nat} {ds : Md} {a : Act} (ha : Fr σ N ds a) : ∀ (rs : List ResultVar) (l : List SV),Zpf Γ e h rs = some l →
  ∃ vs,RepL ρ l vs ∧ (rs.mapM (Zn3 a.tmps) : Sem (List Value)).run P w = .ok vs w
 | [],l,hs => by
  simp only [Zpf,Option.some.injEq] at hs; subst hs
  exact ⟨[],rfl,by simp⟩
 | r :: rs,l,hs => by
  simp only [Zpf] at hs
  split at hs
  ·rename_i s1 h1
   split at hs
   ·rename_i l1 h2
    cases hs
    obtain ⟨v,q1,q2⟩ := resS_ok hΓ he hR h1
    obtain ⟨vs,q3,q4⟩ := Zsb hΓ he hR ha rs l1 h2
    refine ⟨v :: vs,RepL.cons q1 q3,?_⟩
    have q5 := q2.run ha
    rw [List.mapM_cons,Sem.run_bind,q5]
    simp only [Result.andThen_ok]
    rw [Sem.run_bind,q4]
    rfl
   ·cases hs
  ·cases hs
theorem results_ok (hΓ : Zd0 P Γ) {ρ : Rho} {e : Envs} {σ : Env} {h : Heap} {w : World} (he : EnvR ρ e σ) (hR : Zhu Ω ρ h w) {N : Nat} {ds : Md} {a : Act} (ha : Fr σ N ds a) {fn : Func} {l : List SV} (hs : Zpf Γ e h fn.results.toList = some l) :
  ∃ v,Rep ρ (retS l) v ∧ (results fn a.tmps).run P w = .ok v w := by
 obtain ⟨vs,h1,h2⟩ := Zsb (P := P) hΓ he hR ha _ l hs
 have h3 : (fn.results.mapM (Zn3 a.tmps) : Sem (Array Value)).run P w = .ok vs.toArray w := by
  have : fn.results.mapM (Zn3 a.tmps) = (do pure (← fn.results.toList.mapM (Zn3 a.tmps)).toArray : Sem (Array Value)) := by
   have := List.mapM_toArray (m := Sem) (f := Zn3 a.tmps) (l := fn.results.toList)
   simp only [Array.toArray_toList] at this
   rw [this]; rfl
  rw [this,Sem.run_bind,h2]; rfl
 rw [Zhd,Sem.run_bind,h3]
 simp only [Result.andThen_ok]
 match l,vs,h1 with
 | [],vs,h1 => cases h1; exact ⟨.tuple #[],⟨[],rfl,rfl⟩,rfl⟩
 | [s],vs,h1 =>
  obtain ⟨v,l',q1,q2,rfl⟩ := h1
  cases q2
  exact ⟨v,q1,rfl⟩
 | s :: s2 :: l,vs,h1 =>
  obtain ⟨v,l',q1,⟨v2,l2,q2,q3,rfl⟩,rfl⟩ := h1
  exact ⟨.tuple (v :: v2 :: l2).toArray,⟨_,RepL.cons q1 (RepL.cons q2 q3),rfl⟩,by simp⟩
end
end
end Cr.Cl
namespace Cr.Cl
open Go Go.MapKept
set_option maxRecDepth 4000
noncomputable section
structure SelF where
 g : {α : Type} → N16 α → α
structure PutF where
 g : {α : Type} → α → N16 α → N16 α
structure GF where
 g : Envs → Option SV
structure SF where
 g : SV → Envs → Envs
structure LF where
 g : Envs → Option (List SV)
structure BF where
 g : SV → SV → Option SV
structure RF where
 g : Envs → Heap → Option SV
structure HF where
 g : (Job → Option Rs) → Envs → Mem → Option (SV × Mem)
structure KF where
 g : (Job → Option Rs) → Envs → Mem → (Envs → Mem → Option Rs) → Option Rs
structure CF where
 g : (Job → Option Rs) → Envs → Mem → (Ex → Envs → Mem → Option Rs) → Option Rs
structure FF where
 g : (Job → Option Rs) → List SV → Mem → Option Rs
def selC : I16 → SelF
 | .i0 => ⟨fun e => e.a0⟩
 | .i1 => ⟨fun e => e.a1⟩
 | .i2 => ⟨fun e => e.a2⟩
 | .i3 => ⟨fun e => e.a3⟩
 | .i4 => ⟨fun e => e.a4⟩
 | .i5 => ⟨fun e => e.a5⟩
 | .i6 => ⟨fun e => e.a6⟩
 | .i7 => ⟨fun e => e.a7⟩
 | .i8 => ⟨fun e => e.a8⟩
 | .i9 => ⟨fun e => e.a9⟩
 | .i10 => ⟨fun e => e.a10⟩
 | .i11 => ⟨fun e => e.a11⟩
 | .i12 => ⟨fun e => e.a12⟩
 | .i13 => ⟨fun e => e.a13⟩
 | .i14 => ⟨fun e => e.a14⟩
 | .i15 => ⟨fun e => e.a15⟩
def putC : I16 → PutF
 | .i0 => ⟨fun {α} x e => N16.rec (motive := fun _ => N16 α) (fun _ x1 x2 x3 x4 x5 x6 x7 x8 x9 x10 x11 x12 x13 x14 x15 => ⟨x,x1,x2,x3,x4,x5,x6,x7,x8,x9,x10,x11,x12,x13,x14,x15⟩) e⟩
 | .i1 => ⟨fun {α} x e => N16.rec (motive := fun _ => N16 α) (fun x0 _ x2 x3 x4 x5 x6 x7 x8 x9 x10 x11 x12 x13 x14 x15 => ⟨x0,x,x2,x3,x4,x5,x6,x7,x8,x9,x10,x11,x12,x13,x14,x15⟩) e⟩
 | .i2 => ⟨fun {α} x e => N16.rec (motive := fun _ => N16 α) (fun x0 x1 _ x3 x4 x5 x6 x7 x8 x9 x10 x11 x12 x13 x14 x15 => ⟨x0,x1,x,x3,x4,x5,x6,x7,x8,x9,x10,x11,x12,x13,x14,x15⟩) e⟩
 | .i3 => ⟨fun {α} x e => N16.rec (motive := fun _ => N16 α) (fun x0 x1 x2 _ x4 x5 x6 x7 x8 x9 x10 x11 x12 x13 x14 x15 => ⟨x0,x1,x2,x,x4,x5,x6,x7,x8,x9,x10,x11,x12,x13,x14,x15⟩) e⟩
 | .i4 => ⟨fun {α} x e => N16.rec (motive := fun _ => N16 α) (fun x0 x1 x2 x3 _ x5 x6 x7 x8 x9 x10 x11 x12 x13 x14 x15 => ⟨x0,x1,x2,x3,x,x5,x6,x7,x8,x9,x10,x11,x12,x13,x14,x15⟩) e⟩
 | .i5 => ⟨fun {α} x e => N16.rec (motive := fun _ => N16 α) (fun x0 x1 x2 x3 x4 _ x6 x7 x8 x9 x10 x11 x12 x13 x14 x15 => ⟨x0,x1,x2,x3,x4,x,x6,x7,x8,x9,x10,x11,x12,x13,x14,x15⟩) e⟩
 | .i6 => ⟨fun {α} x e => N16.rec (motive := fun _ => N16 α) (fun x0 x1 x2 x3 x4 x5 _ x7 x8 x9 x10 x11 x12 x13 x14 x15 => ⟨x0,x1,x2,x3,x4,x5,x,x7,x8,x9,x10,x11,x12,x13,x14,x15⟩) e⟩
 | .i7 => ⟨fun {α} x e => N16.rec (motive := fun _ => N16 α) (fun x0 x1 x2 x3 x4 x5 x6 _ x8 x9 x10 x11 x12 x13 x14 x15 => ⟨x0,x1,x2,x3,x4,x5,x6,x,x8,x9,x10,x11,x12,x13,x14,x15⟩) e⟩
 | .i8 => ⟨fun {α} x e => N16.rec (motive := fun _ => N16 α) (fun x0 x1 x2 x3 x4 x5 x6 x7 _ x9 x10 x11 x12 x13 x14 x15 => ⟨x0,x1,x2,x3,x4,x5,x6,x7,x,x9,x10,x11,x12,x13,x14,x15⟩) e⟩
 | .i9 => ⟨fun {α} x e => N16.rec (motive := fun _ => N16 α) (fun x0 x1 x2 x3 x4 x5 x6 x7 x8 _ x10 x11 x12 x13 x14 x15 => ⟨x0,x1,x2,x3,x4,x5,x6,x7,x8,x,x10,x11,x12,x13,x14,x15⟩) e⟩
 | .i10 => ⟨fun {α} x e => N16.rec (motive := fun _ => N16 α) (fun x0 x1 x2 x3 x4 x5 x6 x7 x8 x9 _ x11 x12 x13 x14 x15 => ⟨x0,x1,x2,x3,x4,x5,x6,x7,x8,x9,x,x11,x12,x13,x14,x15⟩) e⟩
 | .i11 => ⟨fun {α} x e => N16.rec (motive := fun _ => N16 α) (fun x0 x1 x2 x3 x4 x5 x6 x7 x8 x9 x10 _ x12 x13 x14 x15 => ⟨x0,x1,x2,x3,x4,x5,x6,x7,x8,x9,x10,x,x12,x13,x14,x15⟩) e⟩
 | .i12 => ⟨fun {α} x e => N16.rec (motive := fun _ => N16 α) (fun x0 x1 x2 x3 x4 x5 x6 x7 x8 x9 x10 x11 _ x13 x14 x15 => ⟨x0,x1,x2,x3,x4,x5,x6,x7,x8,x9,x10,x11,x,x13,x14,x15⟩) e⟩
 | .i13 => ⟨fun {α} x e => N16.rec (motive := fun _ => N16 α) (fun x0 x1 x2 x3 x4 x5 x6 x7 x8 x9 x10 x11 x12 _ x14 x15 => ⟨x0,x1,x2,x3,x4,x5,x6,x7,x8,x9,x10,x11,x12,x,x14,x15⟩) e⟩
 | .i14 => ⟨fun {α} x e => N16.rec (motive := fun _ => N16 α) (fun x0 x1 x2 x3 x4 x5 x6 x7 x8 x9 x10 x11 x12 x13 _ x15 => ⟨x0,x1,x2,x3,x4,x5,x6,x7,x8,x9,x10,x11,x12,x13,x,x15⟩) e⟩
 | .i15 => ⟨fun {α} x e => N16.rec (motive := fun _ => N16 α) (fun x0 x1 x2 x3 x4 x5 x6 x7 x8 x9 x10 x11 x12 x13 x14 _ => ⟨x0,x1,x2,x3,x4,x5,x6,x7,x8,x9,x10,x11,x12,x13,x14,x⟩) e⟩
theorem selC_eq {α : Type} (i : I16) (e : N16 α) : (selC i).g e = N16.get i e := by cases i <;> rfl
theorem putC_eq {α : Type} (i : I16) (x : α) (e : N16 α) : (putC i).g x e = N16.set i x e := by cases i <;> rfl
def getC (t : Nat) : GF := match Zjn t with
 | .f hi lo => ⟨fun e => (selC lo).g ((selC hi).g e.lo)⟩
 | .s k => ⟨fun e => e.hi.get k⟩
def setC (t : Nat) : SF := match Zjn t with
 | .f hi lo => ⟨fun v e => Envs.rec (motive := fun _ => Envs) (fun el eh => ⟨(putC hi).g ((putC lo).g (some v) ((selC hi).g el)) el,eh⟩) e⟩
 | .s k => ⟨fun v e => Envs.rec (motive := fun _ => Envs) (fun el eh => ⟨el,eh.set k v⟩) e⟩
theorem Zjb (t : Nat) (e : Envs) : (getC t).g e = e.get t := by
 unfold getC Envs.get
 cases Zjn t with
 | f hi lo => simp only [selC_eq]
 | s k => rfl
theorem Zk3 (t : Nat) (v : SV) (e : Envs) : (setC t).g v e = e.set t v := by
 cases e
 unfold setC Envs.set
 cases Zjn t with
 | f hi lo => simp only [selC_eq,putC_eq]
 | s k => rfl
def Zfq : Operand → GF
 | .tmp t => getC t
 | .const v => ⟨fun _ => ofV v⟩
 | .global g => ⟨fun _ => some (.pg g 0)⟩
 | .func f => ⟨fun _ => some (.fn (.func f) [] [])⟩
theorem Zc6 (x : Operand) (e : Envs) : (Zfq x).g e = opnd e x := by
 cases x with
 | tmp t => exact Zjb t e
 | _ => rfl
def Zpl : List Operand → LF
 | [] => ⟨fun _ => some []⟩
 | x :: l => ⟨fun e => match (Zfq x).g e with
  | some a => match (Zpl l).g e with | some b => some (a :: b) | none => none
  | none => none⟩
theorem Zlg (e : Envs) : ∀ l : List Operand,(Zpl l).g e = Zkf e l
 | [] => rfl
 | x :: l => by simp only [Zpl,Zkf,Zc6,Zlg e l] <;> rfl
def Zn7 : Option Tmp → SF
 | some d => setC d
 | none => ⟨fun _ e => e⟩
theorem Zgc (d : Option Tmp) (v : SV) (e : Envs) : (Zn7 d).g v e = putE d v e := by
 cases d with
 | some d => exact Zk3 d v e
 | none => rfl

/-! ### numbers -/
def limN : IntKind → Nat
 | .i8 => 128 | .i16 => 32768 | .i32 => 2147483648 | .i64 => 9223372036854775808
 | .u8 => 256 | .u16 => 65536 | .u32 => 4294967296 | .u64 => 18446744073709551616
theorem Zr3 {k : IntKind} {n : Nat} (h : n < limN k) : k.wrap (Int.ofNat n) = Int.ofNat n := by
 have e : (Int.ofNat n : Int) = (n : Int) := rfl
 rw [e]
 cases k <;> simp only [limN] at h <;> simp only [IntKind.wrap,IntKind.bits,IntKind.signed] <;> simp <;> omega
def addW (k : IntKind) (a b : Int) : Int := match a,b with
 | .ofNat x,.ofNat y => bif Nat.blt (Nat.add x y) (limN k) then .ofNat (Nat.add x y) else k.wrap (.ofNat x + .ofNat y)
 | a,b => k.wrap (a + b)
theorem addW_eq (k : IntKind) (a b : Int) : addW k a b = k.wrap (a + b) := by
 unfold addW
 split
 ·rename_i x y
  cases h : Nat.blt (Nat.add x y) (limN k) with
  | false => rfl
  | true =>
   have := Zr3 (Zcx h)
   rw [cond_true,← this]; rfl
 ·rfl
def subW (k : IntKind) (a b : Int) : Int := match a,b with
 | .ofNat x,.ofNat y => bif Nat.ble y x && Nat.blt (Nat.sub x y) (limN k) then .ofNat (Nat.sub x y) else k.wrap (.ofNat x - .ofNat y)
 | a,b => k.wrap (a - b)
theorem subW_eq (k : IntKind) (a b : Int) : subW k a b = k.wrap (a - b) := by
 unfold subW
 split
 ·rename_i x y
  cases h : (Nat.ble y x && Nat.blt (Nat.sub x y) (limN k)) with
  | false => rfl
  | true =>
   rw [Bool.and_eq_true] at h
   have h1 := Zcd h.1
   have := Zr3 (Zcx h.2)
   rw [cond_true,← this]
   congr 1
   show ((x - y : Nat) : Int) = (x : Int) - (y : Int)
   omega
 ·rfl
section
variable (Γ : Ctx)
def binC (op : BinOp) (t : TypeId) (x y : Operand) : BF :=
 match op with
 | .add => ⟨fun a b => match a with
  | .i k a => (match b with | .i k' b => (bif ikeq k k' then some (.i k (addW k a b)) else none) | b => bin Γ .add t x y (.i k a) b)
  | a => bin Γ .add t x y a b⟩
 | .sub => ⟨fun a b => match a with
  | .i k a => (match b with | .i k' b => (bif ikeq k k' then some (.i k (subW k a b)) else none) | b => bin Γ .sub t x y (.i k a) b)
  | a => bin Γ .sub t x y a b⟩
 | .lss => ⟨fun a b => match a with
  | .i k a => (match b with | .i k' b => (bif ikeq k k' then some (.b (ilt a b)) else none) | b => bin Γ .lss t x y (.i k a) b)
  | a => bin Γ .lss t x y a b⟩
 | .leq => ⟨fun a b => match a with
  | .i k a => (match b with | .i k' b => (bif ikeq k k' then some (.b (!ilt b a)) else none) | b => bin Γ .leq t x y (.i k a) b)
  | a => bin Γ .leq t x y a b⟩
 | .gtr => ⟨fun a b => match a with
  | .i k a => (match b with | .i k' b => (bif ikeq k k' then some (.b (ilt b a)) else none) | b => bin Γ .gtr t x y (.i k a) b)
  | a => bin Γ .gtr t x y a b⟩
 | .geq => ⟨fun a b => match a with
  | .i k a => (match b with | .i k' b => (bif ikeq k k' then some (.b (!ilt a b)) else none) | b => bin Γ .geq t x y (.i k a) b)
  | a => bin Γ .geq t x y a b⟩
 | .eql => ⟨fun a b => match a with
  | .i k a => (match b with | .i k' b => (bif ikeq k k' then some (.b (ieq a b)) else none) | b => bin Γ .eql t x y (.i k a) b)
  | a => bin Γ .eql t x y a b⟩
 | .neq => ⟨fun a b => match a with
  | .i k a => (match b with | .i k' b => (bif ikeq k k' then some (.b (!ieq a b)) else none) | b => bin Γ .neq t x y (.i k a) b)
  | a => bin Γ .neq t x y a b⟩
 | op => ⟨fun a b => bin Γ op t x y a b⟩
theorem binC_eq (op : BinOp) (t : TypeId) (x y : Operand) (a b : SV) : (binC Γ op t x y).g a b = bin Γ op t x y a b := by
 cases op <;> try rfl
 all_goals (cases a <;> try rfl)
 all_goals (cases b <;> try rfl)
 all_goals (simp only [binC,bin,binI,addW_eq,subW_eq])

/-! ### operations -/
def Zlf (op : Op) : GF :=
 match op with
 | .move x => Zfq x
 | .assign x => Zfq x
 | .pick c a b => ⟨fun e => match (Zfq c).g e with | some (.b t) => (bif t then (Zfq a).g e else (Zfq b).g e) | _ => none⟩
 | .nilCheck x => ⟨fun e => match (Zfq x).g e with | some v => evNil v | none => none⟩
 | .binOp op t x y _ => ⟨fun e => match (Zfq x).g e with
  | some a => match (Zfq y).g e with | some b => (binC Γ op t x y).g a b | none => none
  | none => none⟩
 | .unOp op _ x => ⟨fun e => match (Zfq x).g e with | some a => un op a | none => none⟩
 | .fieldAddr t x f => match Γ.ty.get t with
  | some ti => match ti.und with
   | .struct _ => ⟨fun e => match (Zfq x).g e with | some v => Zh7 ti.pl f v | none => none⟩
   | _ => ⟨fun _ => none⟩
  | none => ⟨fun _ => none⟩
 | .field t x f => match und Γ t with
  | some (.struct fs) => match fs[f]? with
   | some fd => ⟨fun e => match (Zfq x).g e with
    | some (.agg cs) => part Γ fd.type cs fd.offset
    | _ => none⟩
   | none => ⟨fun _ => none⟩
  | _ => ⟨fun _ => none⟩
 | .extract x i => ⟨fun e => match (Zfq x).g e with | some (.tup l) => l[i]? | _ => none⟩
 | .indexAddr t x i => match und Γ t with
  | some d => match elemOf d with
   | some el => match siz Γ el with
    | some sz => ⟨fun e => match (Zfq x).g e with
     | some v => match (Zfq i).g e with | some (.i _ (.ofNat k)) => Zh6 sz d v k | _ => none
     | none => none⟩
    | none => ⟨fun _ => none⟩
   | none => ⟨fun _ => none⟩
  | none => ⟨fun _ => none⟩
 | op => ⟨fun e => Zd5 Γ e op⟩
theorem Zse (op : Op) (e : Envs) : (Zlf Γ op).g e = Zd5 Γ e op := by
 cases op with
 | move x => exact Zc6 x e
 | assign x => exact Zc6 x e
 | pick c a b => simp only [Zlf,Zd5,Zc6] <;> rfl
 | nilCheck x => simp only [Zlf,Zd5,Zc6] <;> rfl
 | binOp op t x y ty => simp only [Zlf,Zd5,Zc6,binC_eq] <;> rfl
 | unOp op t x => simp only [Zlf,Zd5,Zc6] <;> rfl
 | fieldAddr t x f =>
  simp only [Zlf,Zd5]
  cases Γ.ty.get t with
  | none => rfl
  | some ti =>
   obtain ⟨u,z,sz,b,ag,pl,ng⟩ := ti
   cases u <;> first | rfl | (simp only [Zc6] <;> rfl)
 | field t x f =>
  simp only [Zlf,Zd5]
  cases und Γ t with
  | none => rfl
  | some d => cases d <;> first | rfl | (rename_i fs; simp only; cases fs[f]? <;> first | rfl | (simp only [Zc6] <;> rfl))
 | extract x i => simp only [Zlf,Zd5,Zc6] <;> rfl
 | indexAddr t x i =>
  simp only [Zlf,Zd5]
  cases und Γ t with
  | none => rfl
  | some d =>
   simp only
   cases elemOf d with
   | none => rfl
   | some el =>
    simp only
    cases siz Γ el with
    | none => rfl
    | some sz => simp only [Zc6] <;> rfl
 | _ => rfl
def readC (op : Op) : RF :=
 match op with
 | .load t x => match Γ.ty.get t with
  | some ti => bif ti.agg then ⟨fun e h => match (Zfq x).g e with | some (.p o off) => Zra Γ h t o off | _ => none⟩
   else ⟨fun e h => match (Zfq x).g e with | some (.p o off) => (match Zk7 h o with | some c => c[off]? | none => none) | _ => none⟩
  | none => ⟨fun e h => Zfx Γ e h op⟩
 | op => ⟨fun e h => Zfx Γ e h op⟩
theorem Zsc (op : Op) (e : Envs) (h : Heap) : (readC Γ op).g e h = Zfx Γ e h op := by
 cases op with
 | load t x =>
  simp only [readC]
  cases hti : Γ.ty.get t with
  | none => rfl
  | some ti =>
   cases hag : ti.agg with
   | true => simp only [hag,cond_true,Zfx,Zc6] <;> rfl
   | false => simp only [hag,cond_false,Zfx,Zc6,Zra,part,hti] <;> rfl
 | _ => rfl
variable (rec : Job → Option Rs)
def Zps (op : Op) : HF :=
 match op with
 | .store t x y => match siz Γ t with
  | some sz => ⟨fun _ e m => match (Zfq x).g e with
   | some (.p o off) => match (Zfq y).g e with
    | some v => bif Nat.beq (cells v).length sz then (match Zif m.h o off (cells v) with | some h => some (.tup [],⟨h,m.n⟩) | none => none) else none
    | none => none
   | _ => none⟩
  | none => ⟨fun rec e m => Zkh Γ rec e m op⟩
 | .call { callee := .value f,args,argTypes := _ } => match f with
  | .func g => match Γ.ext.get g with
   | some xf => ⟨fun _ e m => match (Zpl args.toList).g e with | some vs => xf vs m | none => none⟩
   | none => ⟨fun rec e m => match (Zpl args.toList).g e with
    | some vs => (match rec (.call g vs m) with | some (.ret v m) => some (v,m) | _ => none)
    | none => none⟩
  | _ => ⟨fun rec e m => Zkh Γ rec e m op⟩
 | op => ⟨fun rec e m => Zkh Γ rec e m op⟩
theorem Zpr (op : Op) (e : Envs) (m : Mem) : (Zps Γ op).g rec e m = Zkh Γ rec e m op := by
 cases op with
 | store t x y =>
  simp only [Zps]
  cases hs : siz Γ t with
  | none => rfl
  | some sz =>
   simp only [Zkh,Zfy,Zc6,hs]
   cases opnd e x with
   | none => rfl
   | some a =>
    cases a <;> try rfl
    simp only
    cases opnd e y with
    | none => rfl
    | some v =>
     simp only
     cases Nat.beq (cells v).length sz with
     | false => rfl
     | true =>
      simp only [cond_true]
      cases Zif m.h _ _ (cells v) <;> rfl
 | call c =>
  obtain ⟨callee,args,ts⟩ := c
  cases callee with
  | value f =>
   cases f with
   | func g =>
    simp only [Zps,Zkh,Zfy,Zkq,opnd]
    cases hx : Γ.ext.get g with
    | some xf =>
     simp only [Zlg]
     cases Zkf e args.toList with
     | none => rfl
     | some vs => simp only [List.nil_append,List.append_nil,hx]
    | none =>
     simp only [Zlg]
     cases Zkf e args.toList with
     | none => rfl
     | some vs => simp only [List.nil_append,List.append_nil,hx] <;> rfl
   | _ => rfl
  | _ => rfl
 | _ => rfl

/-! ### of what sort is an operation? -/
inductive Kc where
 | p
 | r
 | a
 | h
 | any
def kcT (op : Op) : Kc :=
 match op with
 | .move _ | .assign _ | .pick _ _ _ | .nilCheck _ | .binOp _ _ _ _ _ | .unOp _ _ _ | .makeInterface _ _ | .makeFunc _ _ _ | .slice _ _ _ _ _ | .fieldAddr _ _ _ | .field _ _ _ | .indexAddr _ _ _ | .index _ _ _ | .extract _ _ | .build _ _ | .sliceToArrayPointer _ _ => .p
 | .load _ _ | .lookup _ _ _ _ => .r
 | .alloc _ | .box _ _ | .buildSlice _ _ _ | .makeMap _ _ | .makeSlice _ _ _ => .a
 | .store _ _ _ | .mapUpdate _ _ _ _ | .insert _ _ _ _ => .h
 | .call { callee := .value _,args := _,argTypes := _ } => .h
 | .call { callee := .builtin b,args,argTypes } => match b with
  | .append | .copy | .clear | .delete => .h
  | .cap | .min | .max => .p
  | .len => match args.toList,argTypes.toList with
   | [_],t :: _ => match und Γ t with
    | some (.map _ _) => .r
    | some _ => .p
    | none => .any
   | _,_ => .any
  | _ => .any
 | .convert s d _ => match und Γ s,und Γ d with
  | some (.int _),some (.int _) => .p
  | some .string,some .string => .p
  | _,_ => .any
 | _ => .any

theorem kc_r {op : Op} (h : kcT Γ op = .r) (e : Envs) : Zd5 Γ e op = none ∧ Zgk Γ e op = none := by
 cases op with
 | load => exact ⟨rfl,rfl⟩
 | lookup => exact ⟨rfl,rfl⟩
 | convert s d x =>
  simp only [kcT] at h
  split at h <;> cases h
 | call c =>
  obtain ⟨callee,args,ts⟩ := c
  cases callee with
  | builtin b =>
   cases b <;> try (simp only [kcT] at h; cases h)
   simp only [kcT] at h
   split at h
   ·rename_i x t r ha ht
    split at h
    ·rename_i k v hu
     refine ⟨?_,rfl⟩
     simp only [Zd5,Zis,ha,ht,hu]
     cases opnd e x with
     | none => rfl
     | some u => rfl
    ·cases h
    ·cases h
   ·cases h
  | _ => simp only [kcT] at h; cases h
 | _ => simp only [kcT] at h; cases h
theorem kc_a {op : Op} (h : kcT Γ op = .a) (e : Envs) (hp : Heap) : Zd5 Γ e op = none ∧ Zfx Γ e hp op = none := by
 cases op with
 | alloc => exact ⟨rfl,rfl⟩
 | box => exact ⟨rfl,rfl⟩
 | buildSlice => exact ⟨rfl,rfl⟩
 | makeMap => exact ⟨rfl,rfl⟩
 | makeSlice => exact ⟨rfl,rfl⟩
 | convert s d x =>
  simp only [kcT] at h
  split at h <;> cases h
 | call c =>
  obtain ⟨callee,args,ts⟩ := c
  cases callee with
  | builtin b =>
   cases b <;> try (simp only [kcT] at h; cases h)
   simp only [kcT] at h
   split at h
   ·split at h <;> cases h
   ·cases h
  | _ => simp only [kcT] at h; cases h
 | _ => simp only [kcT] at h; cases h
theorem kc_h {op : Op} (h : kcT Γ op = .h) (e : Envs) (hp : Heap) : Zd5 Γ e op = none ∧ Zfx Γ e hp op = none ∧ Zgk Γ e op = none := by
 cases op with
 | store => exact ⟨rfl,rfl,rfl⟩
 | mapUpdate => exact ⟨rfl,rfl,rfl⟩
 | insert => exact ⟨rfl,rfl,rfl⟩
 | convert s d x =>
  simp only [kcT] at h
  split at h <;> cases h
 | call c =>
  obtain ⟨callee,args,ts⟩ := c
  cases callee with
  | value f => exact ⟨rfl,rfl,rfl⟩
  | builtin b =>
   cases b <;> first | exact ⟨rfl,rfl,rfl⟩ | (simp only [kcT] at h; first | cases h | (split at h; (split at h <;> cases h); cases h))
  | invoke => simp only [kcT] at h; cases h
 | _ => simp only [kcT] at h; cases h
def bodyC (o : Oper) : KF := match kcT Γ o.op with
 | .p => ⟨fun _ e m k => match (Zlf Γ o.op).g e with | some v => k ((Zn7 o.dst).g v e) m | none => none⟩
 | .r => ⟨fun _ e m k => match (readC Γ o.op).g e m.h with | some v => k ((Zn7 o.dst).g v e) m | none => none⟩
 | .a => match o.dst with
  | some d => ⟨fun _ e m k => match Zgk Γ e o.op with
   | some (ob,mk) => (bif Nat.blt m.n top then Zlw m.n (fun n => k ((setC d).g (mk.at n) e) ⟨m.h.set n ob,Nat.succ n⟩) else none)
   | none => none⟩
  | none => ⟨fun _ _ _ _ => none⟩
 | .h => ⟨fun rec e m k => Zlw m.n (fun n => match (Zps Γ o.op).g rec e ⟨m.h,n⟩ with | some (v,m) => k ((Zn7 o.dst).g v e) m | none => none)⟩
 | .any => ⟨fun rec e m k => match Zmn Γ rec e m o with | some (e,m) => k e m | none => none⟩
theorem Zs9 {o : Oper} {e : Envs} {m : Mem} {k : Envs → Mem → Option Rs} {r : Rs} (h : (bodyC Γ o).g rec e m k = some r) : ∃ e' m',Zmn Γ rec e m o = some (e',m') ∧ k e' m' = some r := by
 unfold bodyC at h
 split at h
 ·simp only [Zse,Zgc] at h
  split at h
  ·rename_i v hv
   exact ⟨_,_,by unfold Zmn; rw [hv],h⟩
  ·cases h
 ·rename_i hk
  simp only [Zsc,Zgc] at h
  split at h
  ·rename_i v hv
   exact ⟨_,_,by unfold Zmn; rw [(kc_r Γ hk e).1]; simp only [hv],h⟩
  ·cases h
 ·rename_i hk
  split at h
  ·rename_i d hd
   simp only at h
   split at h
   ·rename_i ob mk hal
    replace h := Zar h; obtain ⟨ht,h⟩ := h
    simp only [Zk3,Zf0] at h
    refine ⟨_,_,?_,h⟩
    unfold Zmn
    rw [(kc_a Γ hk e m.h).1]
    simp only [(kc_a Γ hk e m.h).2,hal,hd,ht,cond_true]
   ·cases h
  ·cases h
 ·rename_i hk
  simp only [Zpr,Zgc,Zf0] at h
  split at h
  ·rename_i v m' hv
   refine ⟨_,_,?_,h⟩
   unfold Zmn
   rw [(kc_h Γ hk e m.h).1]
   simp only [(kc_h Γ hk e m.h).2.1,(kc_h Γ hk e m.h).2.2,hv]
  ·cases h
 ·simp only at h
  split at h
  ·rename_i e' m' hv
   exact ⟨_,_,hv,h⟩
  ·cases h
def Zss (all : List Oper) (g : Option (Nat × Bool)) : Option (Nat × Bool) := match g with
 | none => none
 | some (j,b) => match all[j]? with
  | some o => match o.dst with | some d => some (d,b) | none => none
  | none => none
def opC (all : List Oper) (o : Oper) : KF := match o.guard with
 | none => bodyC Γ o
 | some q => match Zss all (some q) with
  | some (d,b) => ⟨fun rec e m k => match (getC d).g e with
   | some (.b c) => bif c == b then (bodyC Γ o).g rec e m k else k ((Zn7 o.dst).g Zfv e) m
   | some (.tup []) => k ((Zn7 o.dst).g Zfv e) m
   | _ => none⟩
  | none => ⟨fun _ _ _ _ => none⟩
def opsC (all : List Oper) : List Oper → KF
 | [] => ⟨fun _ e m k => k e m⟩
 | o :: r => ⟨fun rec e m k => (opC Γ all o).g rec e m (fun e m => (opsC all r).g rec e m k)⟩
theorem opC_ok {all : List Oper} {o : Oper} {e : Envs} {m : Mem} {k : Envs → Mem → Option Rs} {r : Rs} (h : (opC Γ all o).g rec e m k = some r) :
  (Zhx e all o.guard = some true ∧ ∃ e' m',Zmn Γ rec e m o = some (e',m') ∧ k e' m' = some r) ∨ (Zhx e all o.guard = some false ∧ k (putE o.dst Zfv e) m = some r) := by
 unfold opC at h
 split at h
 ·rename_i hg
  exact .inl ⟨by rw [hg]; rfl,Zs9 Γ rec h⟩
 ·rename_i q hg
  obtain ⟨j,b⟩ := q
  split at h
  ·rename_i d b' hgc
   unfold Zss at hgc
   simp only at hgc
   split at hgc
   ·rename_i oj hj
    split at hgc
    ·rename_i d' hd
     cases hgc
     have hw : Zhx e all o.guard = match e.get d with | some (.b c) => some (c == b) | some (.tup []) => some false | _ => none := by
      rw [hg]; simp only [Zhx,hj,hd] <;> rfl
     simp only [Zjb,Zgc] at h
     split at h
     ·rename_i c hc
      rcases Zcc h with ⟨hcb,h⟩ | ⟨hcb,h⟩
      ·exact .inl ⟨by rw [hw,hc]; simp only [hcb],Zs9 Γ rec h⟩
      ·exact .inr ⟨by rw [hw,hc]; simp only [hcb],h⟩
     ·rename_i hc
      exact .inr ⟨by rw [hw,hc],h⟩
     ·cases h
    ·cases hgc
   ·cases hgc
  ·cases h
theorem Zq4 {all : List Oper} {k : Envs → Mem → Option Rs} {r : Rs} : ∀ (l : List Oper) (e : Envs) (m : Mem),(opsC Γ all l).g rec e m k = some r → ∃ e' m',Zjq Γ rec all l e m = some (e',m') ∧ k e' m' = some r
 | [],e,m,h => ⟨e,m,rfl,h⟩
 | o :: l,e,m,h => by
  simp only [opsC] at h
  rcases opC_ok Γ rec h with ⟨hw,e1,m1,h1,h2⟩ | ⟨hw,h2⟩
  ·obtain ⟨e2,m2,h3,h4⟩ := Zq4 l e1 m1 h2
   exact ⟨e2,m2,by simp only [Zjq,hw,h1]; exact h3,h4⟩
  ·obtain ⟨e2,m2,h3,h4⟩ := Zq4 l _ m h2
   exact ⟨e2,m2,by simp only [Zjq,hw]; exact h3,h4⟩
end
end
end Cr.Cl
namespace Cr.Cl
open Go Go.MapKept
set_option maxRecDepth 4000
noncomputable section
structure DF where
 g : (Job → Option Rs) → Nat → Envs → List (Nat × SO) → Mem → (Envs → List (Nat × SO) → Mem → Option Rs) → Option Rs
structure EF where
 g : Envs → Option Envs
def Zj5 (base : Nat) (p : Nat → Bool) : List (Nat × SO) → Heap → Option Heap
 | [],h => some h
 | (k,ob) :: r,h => bif p k then (bif Nat.blt (base + k) top then Zlw (base + k) (fun n => match h.get n with | none => Zj5 base p r (h.set n ob) | some _ => none) else none) else Zj5 base p r h
def keepD (p : Nat → Bool) : List (Nat × SO) → List (Nat × SO)
 | [] => []
 | (k,ob) :: r => bif p k then keepD p r else (k,ob) :: keepD p r
def restr (e : Envs) : List Nat → Option Envs
 | [] => some .nil
 | t :: r => match restr e r with
  | none => none
  | some e1 => match e.get t with | some v => some (e1.set t v) | none => none
def Zk8 : List Nat → EF
 | [] => ⟨fun _ => some .nil⟩
 | t :: r => ⟨fun e => match (Zk8 r).g e with
  | none => none
  | some e1 => match (getC t).g e with | some v => some ((setC t).g v e1) | none => none⟩
theorem Zgx (e : Envs) : ∀ ts : List Nat,(Zk8 ts).g e = restr e ts
 | [] => rfl
 | t :: r => by simp only [Zk8,restr,Zgx e r,Zjb,Zk3]
def Zde (abs : Nat) : List Ent → Nat → List (Nat × SO)
 | [],_ => []
 | x :: r,k => match x.kd with
  | .alloc ob _ => bif bit abs k then Zde abs r (k + 1) else (k,ob) :: Zde abs r (k + 1)
  | _ => Zde abs r (k + 1)
theorem Zmc (base : Nat) (p : Nat → Bool) (abs : Nat) : ∀ (ents : List Ent) (k : Nat) (h : Heap),Zj5 base p (Zde abs ents k) h = addP base (fun n => p n && !bit abs n) ents k h
 | [],k,h => rfl
 | x :: r,k,h => by
  have ih := Zmc base p abs r (k + 1)
  simp only [Zde,addP]
  cases x.kd with
  | alloc ob mk =>
   simp only
   cases bit abs k with
   | true => simp only [cond_true,Bool.not_true,Bool.and_false,cond_false]; exact ih h
   | false =>
    simp only [cond_false,Bool.not_false,Bool.and_true,Zj5]
    cases p k with
    | false => simp only [cond_false]; exact ih h
    | true =>
     simp only [cond_true]
     cases Nat.blt (base + k) top with
     | false => rfl
     | true =>
      simp only [cond_true,Zf0]
      cases Heap.get h (base + k) with
      | none => exact ih _
      | some _ => rfl
  | soft => exact ih h
  | read => exact ih h
  | main => exact ih h
theorem Zso (m abs : Nat) : ∀ (ents : List Ent) (k : Nat),keepD (bit m) (Zde abs ents k) = Zde (Nat.lor abs m) ents k
 | [],k => rfl
 | x :: r,k => by
  have ih := Zso m abs r (k + 1)
  simp only [Zde]
  cases x.kd with
  | alloc ob mk =>
   simp only [Zgh]
   cases bit abs k with
   | true => simp only [cond_true,Bool.true_or]; exact ih
   | false =>
    simp only [cond_false,Bool.false_or,keepD]
    cases bit m k with
    | true => simp only [cond_true]; exact ih
    | false => simp only [cond_false,ih]
  | soft => exact ih
  | read => exact ih
  | main => exact ih
theorem Zgd (abs : Nat) : ∀ (a b : List Ent) (k : Nat),Zde abs (a ++ b) k = Zde abs a k ++ Zde abs b (k + a.length)
 | [],b,k => by simp [Zde]
 | x :: a,b,k => by
  have ih := Zgd abs a b (k + 1)
  rw [show k + 1 + a.length = k + (a.length + 1) by omega] at ih
  simp only [List.cons_append,Zde,List.length_cons]
  cases x.kd with
  | alloc ob mk =>
   simp only
   cases bit abs k with
   | true => simp only [cond_true]; exact ih
   | false => simp only [cond_false,List.cons_append,ih]
  | soft => exact ih
  | read => exact ih
  | main => exact ih
theorem Zqb (base : Nat) {p : Nat → Bool} : ∀ (b : List Ent) (k : Nat) (h : Heap),(∀ n,p (k + n) = false) → addP base p b k h = some h
 | [],_,_,_ => rfl
 | x :: r,k,h,hp => by
  have ih := Zqb base (p := p) r (k + 1) h fun n => by rw [show k + 1 + n = k + (n + 1) by omega]; exact hp _
  simp only [addP]
  cases x.kd with
  | alloc ob mk => simp only [show p k = false from hp 0,cond_false]; exact ih
  | soft => exact ih
  | read => exact ih
  | main => exact ih
theorem Zmb (base : Nat) {p : Nat → Bool} : ∀ (a b : List Ent) (k : Nat) (h : Heap),(∀ n,p (k + a.length + n) = false) → addP base p (a ++ b) k h = addP base p a k h
 | [],b,k,h,hp => by simpa [addP] using Zqb base b k h (by simpa using hp)
 | x :: a,b,k,h,hp => by
  have ih := fun h => Zmb base (p := p) a b (k + 1) h fun n => by rw [show k + 1 + a.length + n = k + (a.length + 1) + n by omega]; exact hp n
  simp only [List.cons_append,addP]
  cases x.kd with
  | alloc ob mk => simp only [ih]
  | soft => exact ih h
  | read => exact ih h
  | main => exact ih h
theorem Zhf {l : List Oper} {ms : List Nat} {i : Nat} {e0 : Envs} {ents ents' : List Ent} (hp : ∃ t,ents' = ents ++ t) : ∀ (ts : List Nat) (e : Envs),Zgp l ms i e0 ents ts = some e → Zgp l ms i e0 ents' ts = some e
 | [],e,h => h
 | t :: r,e,h => by
  simp only [Zgp] at h ⊢
  split at h
  ·cases h
  ·rename_i e1 he1
   rw [Zhf hp r e1 he1]
   simp only
   replace h := Zar h; obtain ⟨ht,h⟩ := h
   rw [ht,cond_true]
   split at h
   ·split at h
    ·rename_i x hx
     rw [Zdo hp hx]; exact h
    ·cases h
   ·exact h
   ·cases h
theorem Zi4 {Γ : Ctx} {base : Nat} {ents t : List Ent} {y mask : Nat} {e : Envs} {op : Op} {v : SV} {q : Nat × Mem} (hm : mask < 2 ^ y) (hy : y ≤ ents.length) (h : ReadP Γ base ents mask e op v q) : ReadP Γ base (ents ++ t) mask e op v q := by
 obtain ⟨h',h1,h2⟩ := h
 refine ⟨h',?_,h2⟩
 rw [Zmb base ents t 0 _ fun n => ?_]
 ·exact h1
 ·unfold seen; rw [Ziw hm (by omega)]; rfl
theorem Zh0 : ∀ (r : List Oper) (xs : List Ent) (e : Envs) (t : Nat),(∀ o ∈ r,∀ d,o.dst = some d → d < top) → (∀ (k : Nat) (o : Oper),r[k]? = some o → k < xs.length → o.dst ≠ some t) → (Zdq r xs e).get t = e.get t
 | [],_,_,_,_,_ => by simp [Zdq]
 | _ :: _,[],_,_,_,_ => by simp [Zdq]
 | o :: r,x :: xs,e,t,hb,hn => by
  simp only [Zdq]
  rw [Zh0 r xs _ t (fun o ho => hb o (List.mem_cons_of_mem _ ho)) fun k o' hk hl => hn (k + 1) o' (by simpa using hk) (by simpa using hl)]
  cases hd : o.dst with
  | none => rfl
  | some d =>
   show (e.set d x.v).get t = _
   rw [Envs.get_set x.v t (hb o (List.mem_cons_self ..) d hd),if_neg]
   rintro rfl
   exact hn 0 o rfl (by simp) hd
theorem Zm5 : ∀ (r : List Oper) (xs : List Ent) (e : Envs) (t k : Nat) (o : Oper) (x : Ent),(∀ o ∈ r,∀ d,o.dst = some d → d < top) → r[k]? = some o → xs[k]? = some x → o.dst = some t → (∀ (j : Nat) (o' : Oper),k < j → r[j]? = some o' → o'.dst ≠ some t) → (Zdq r xs e).get t = some x.v
 | [],_,_,_,_,_,_,_,h,_,_,_ => by simp at h
 | _ :: _,[],_,_,_,_,_,_,_,h,_,_ => by simp at h
 | o :: r,x :: xs,e,t,0,o1,x1,hb,ho,hx,hd,hl => by
  simp at ho hx; subst ho; subst hx
  simp only [Zdq]
  rw [Zh0 r xs _ t (fun o ho => hb o (List.mem_cons_of_mem _ ho)) fun k o' hk _ => hl (k + 1) o' (by omega) (by simpa using hk),hd]
  show (e.set t x.v).get t = _
  rw [Envs.get_set x.v t (hb o (List.mem_cons_self ..) t hd),if_pos rfl]
 | o :: r,x :: xs,e,t,k + 1,o1,x1,hb,ho,hx,hd,hl => by
  simp only [Zdq]
  exact Zm5 r xs _ t k o1 x1 (fun o ho => hb o (List.mem_cons_of_mem _ ho)) (by simpa using ho) (by simpa using hx) hd fun j o' hj hk => hl (j + 1) o' (by omega) (by simpa using hk)
theorem Zhz : ∀ (r : List Oper) (xs : List Ent) (e : Envs) (o : Oper) (x : Ent),xs.length = r.length → Zdq (r ++ [o]) (xs ++ [x]) e = putE o.dst x.v (Zdq r xs e)
 | [],[],_,_,_,_ => rfl
 | _ :: r,_ :: xs,e,o,x,h => by
  simp only [List.cons_append,Zdq]
  exact Zhz r xs _ o x (by simpa using h)
 | [],_ :: _,_,_,_,h => by simp at h
 | _ :: _,[],_,_,_,h => by simp at h
section
variable (Γ : Ctx)
def allH (q : Nat → Bool) : List Oper → Nat → Bool
 | [],_ => true
 | o :: r,j => (match kcT Γ o.op with | .h => q j | _ => true) && allH q r (j + 1)
theorem Zor {q : Nat → Bool} : ∀ {r : List Oper} {n j : Nat} {o : Oper},allH Γ q r n = true → r[j]? = some o → kcT Γ o.op = .h → q (n + j) = true
 | [],_,_,_,_,h,_ => by simp at h
 | a :: r,n,0,o,h,ho,hk => by
  simp at ho; subst ho
  simp only [allH,Bool.and_eq_true] at h
  rw [hk] at h; exact h.1
 | a :: r,n,j + 1,o,h,ho,hk => by
  simp only [allH,Bool.and_eq_true] at h
  have := Zor h.2 (by simpa using ho) hk
  rwa [show n + 1 + j = n + (j + 1) by omega] at this
def Zpm (l : List Oper) (ms : List Nat) (i : Nat) (o : Oper) : Bool :=
 (Nat.blt (mk ms i) (2 ^ i) && (Zex o.op).all (fun t => Nat.blt t top && (match Zo9 l ms i t with | some _ => true | none => false))) &&
 ((match o.guard with | none => true | some (j,_) => bit (mk ms i) j) && (match o.dst with | some d => Nat.blt d top | none => true)) &&
 (match kcT Γ o.op with
  | .any => false
  | .h => allH Γ (fun j => !Nat.blt j i || bit (mk ms i) j) l 0
  | .r => allH Γ (fun j => bit (mk ms i) j || bit (mk ms j) i) l 0
  | _ => true)
def allO (l : List Oper) (ms : List Nat) : List Oper → Nat → Bool
 | [],_ => true
 | o :: r,i => Zpm Γ l ms i o && allO l ms r (i + 1)
theorem Ze2 {l : List Oper} {ms : List Nat} : ∀ {r : List Oper} {n j : Nat} {o : Oper},allO Γ l ms r n = true → r[j]? = some o → Zpm Γ l ms (n + j) o = true
 | [],_,_,_,_,h => by simp at h
 | a :: r,n,0,o,h,ho => by
  simp at ho; subst ho
  simp only [allO,Bool.and_eq_true] at h; exact h.1
 | a :: r,n,j + 1,o,h,ho => by
  simp only [allO,Bool.and_eq_true] at h
  have := Ze2 h.2 (by simpa using ho)
  rwa [show n + 1 + j = n + (j + 1) by omega] at this
def dopC (ms : List Nat) (i : Nat) (o : Oper) : DF := match kcT Γ o.op with
 | .p => ⟨fun _ _ e pd m k => match (Zk8 (Zex o.op)).g e with
  | some e1 => (match (Zlf Γ o.op).g e1 with | some v => k ((Zn7 o.dst).g v e) pd m | none => none)
  | none => none⟩
 | .a => match o.dst with
  | some d => ⟨fun _ base e pd m k => match (Zk8 (Zex o.op)).g e with
   | some e1 => (match Zgk Γ e1 o.op with | some (ob,mk) => Zlw (base + i) (fun n => k ((setC d).g (mk.at n) e) (pd ++ [(i,ob)]) m) | none => none)
   | none => none⟩
  | none => ⟨fun _ _ _ _ _ _ => none⟩
 | .r => ⟨fun _ base e pd m k => match (Zk8 (Zex o.op)).g e with
  | some e1 => (match Zj5 base (bit (mk ms i)) pd m.h with
   | some h => (match (readC Γ o.op).g e1 h with | some v => k ((Zn7 o.dst).g v e) pd m | none => none)
   | none => none)
  | none => none⟩
 | .h => ⟨fun rec base e pd m k => match (Zk8 (Zex o.op)).g e with
  | some e1 => (match Zj5 base (bit (mk ms i)) pd m.h with
   | some h => Zlw m.n (fun n => match (Zps Γ o.op).g rec e1 ⟨h,n⟩ with | some (v,m1) => k ((Zn7 o.dst).g v e) (keepD (bit (mk ms i)) pd) m1 | none => none)
   | none => none)
  | none => none⟩
 | .any => ⟨fun _ _ _ _ _ _ => none⟩
def dgC (l : List Oper) (ms : List Nat) (i : Nat) (o : Oper) : DF := match o.guard with
 | none => dopC Γ ms i o
 | some q => match Zss l (some q) with
  | some (d,b) => match o.dst with
   | some d' => ⟨fun rec base e pd m k => match (getC d).g e with
    | some (.b c) => bif c == b then (dopC Γ ms i o).g rec base e pd m k else k ((setC d').g Zfv e) pd m
    | some (.tup []) => k ((setC d').g Zfv e) pd m
    | _ => none⟩
   | none => ⟨fun _ _ _ _ _ _ => none⟩
  | none => ⟨fun _ _ _ _ _ _ => none⟩
def dopsC (l : List Oper) (ms : List Nat) : List Oper → Nat → DF
 | [],_ => ⟨fun _ _ e pd m k => k e pd m⟩
 | o :: r,i => ⟨fun rec base e pd m k => (dgC Γ l ms i o).g rec base e pd m (fun e pd m => (dopsC l ms r (i + 1)).g rec base e pd m k)⟩
def drawC (l : List Oper) : KF := bif allO Γ l (Zbn l) l 0 then
  ⟨fun rec e m k => bif Nat.ble (m.n + l.length) top then Zlw m.n (fun b => (dopsC Γ l (Zbn l) l 0).g rec b e [] ⟨m.h,b + l.length⟩ (fun e pd m' => match Zj5 b (fun _ => true) pd m'.h with | some h => k e ⟨h,m'.n⟩ | none => none)) else none⟩
 else ⟨fun rec e m k => match Ziu Γ rec l e m with | some (e,m) => k e m | none => none⟩
end
section
variable {Γ : Ctx} {rec : Job → Option Rs} {l : List Oper} {base : Nat} {e0 : Envs}
structure RelD (Γ : Ctx) (l : List Oper) (base : Nat) (e0 : Envs) (st : DSt) (i : Nat) (e : Envs) (pd : List (Nat × SO)) (m : Mem) : Prop where
 len : st.ents.length = i
 le : i ≤ l.length
 env : e = Zdq (l.take i) st.ents e0
 pd : pd = Zde st.abs st.ents 0
 cur : m = st.cur
 wf : Wf (Zbn l) st
 main : ∀ (k y : Nat),st.mains[k]? = some y → y < i ∧ ∃ o,l[y]? = some o ∧ kcT Γ o.op = .h
 abs : ∀ k,bit st.abs k = true → k < i
 read : ∀ (y : Nat) (o : Oper) (x : Ent),l[y]? = some o → st.ents[y]? = some x → x.kd = .read → kcT Γ o.op = .r ∧ ∃ e1,Zgp l (Zbn l) y e0 st.ents (Zex o.op) = some e1 ∧ ∃ j q,st.mems[j]? = some q ∧ j ≤ st.mains.length ∧ (∀ (k z : Nat),st.mains[k]? = some z → (k < j ↔ z < y)) ∧ ReadP Γ base st.ents (mk (Zbn l) y) e1 o.op x.v q
theorem Zc1 {ms : List Nat} {i : Nat} {o : Oper} (h : Zpm Γ l ms i o = true) : mk ms i < 2 ^ i ∧ (∀ t ∈ Zex o.op,t < top ∧ Zo9 l ms i t ≠ none) ∧ (∀ j b,o.guard = some (j,b) → bit (mk ms i) j = true) ∧ (∀ d,o.dst = some d → d < top) ∧
  (kcT Γ o.op = .h → allH Γ (fun j => !Nat.blt j i || bit (mk ms i) j) l 0 = true) ∧ (kcT Γ o.op = .r → allH Γ (fun j => bit (mk ms i) j || bit (mk ms j) i) l 0 = true) := by
 unfold Zpm at h
 rw [Bool.and_eq_true,Bool.and_eq_true,Bool.and_eq_true,Bool.and_eq_true] at h
 obtain ⟨⟨⟨h1,h2⟩,h3,h4⟩,h5⟩ := h
 refine ⟨Zcx h1,fun t ht => ?_,fun j b hg => ?_,fun d hd => ?_,fun hk => ?_,fun hk => ?_⟩
 ·have := List.all_eq_true.1 h2 t ht
  rw [Bool.and_eq_true] at this
  refine ⟨Zcx this.1,fun q => ?_⟩
  rw [q] at this; exact absurd this.2 (by simp)
 ·rw [hg] at h3; exact h3
 ·rw [hd] at h4; exact Zcx h4
 ·rw [hk] at h5; exact h5
 ·rw [hk] at h5; exact h5
theorem RelD.hit (hA : allO Γ l (Zbn l) l 0 = true) (hd : Zcl l = true) {st : DSt} {i : Nat} {e : Envs} {pd : List (Nat × SO)} {m : Mem} (R : RelD Γ l base e0 st i e pd m) {k t : Nat} {o : Oper} (hk : k < i) (ho : l[k]? = some o) (hdo : o.dst = some t) : ∃ x,st.ents[k]? = some x ∧ e.get t = some x.v := by
 obtain ⟨x,hx⟩ : ∃ x,st.ents[k]? = some x := ⟨_,List.getElem?_eq_getElem (by rw [R.len]; exact hk)⟩
 refine ⟨_,hx,?_⟩
 rw [R.env]
 refine Zm5 (l.take i) st.ents e0 t k o _ (fun o ho d hd => ?_) (by rw [List.getElem?_take,if_pos hk]; exact ho) hx hdo fun j o' hj ho' hd' => ?_
 ·obtain ⟨j,hj⟩ := List.getElem?_of_mem (List.mem_of_mem_take ho)
  have := Ze2 Γ hA hj
  rw [Nat.zero_add] at this
  exact (Zc1 this).2.2.2.1 d hd
 ·rw [List.getElem?_take] at ho'
  split at ho'
  ·have := Zff hd k j o o' t ho ho' hdo hd'
   omega
  ·cases ho'
theorem RelD.miss (hA : allO Γ l (Zbn l) l 0 = true) {st : DSt} {i : Nat} {e : Envs} {pd : List (Nat × SO)} {m : Mem} (R : RelD Γ l base e0 st i e pd m) {t : Nat} (hn : ∀ (k : Nat) (o : Oper),k < i → l[k]? = some o → o.dst ≠ some t) : e.get t = e0.get t := by
 rw [R.env]
 refine Zh0 (l.take i) st.ents e0 t (fun o ho d hd => ?_) fun k o hk _ => ?_
 ·obtain ⟨j,hj⟩ := List.getElem?_of_mem (List.mem_of_mem_take ho)
  have := Ze2 Γ hA hj
  rw [Nat.zero_add] at this
  exact (Zc1 this).2.2.2.1 d hd
 ·rw [List.getElem?_take] at hk
  split at hk
  ·rename_i q; exact hn k o q hk
  ·cases hk
theorem Znl {ms : List Nat} {i k : Nat} (hm : mk ms i < 2 ^ i) (h : bit (mk ms i) k = true) : k < i := by
 rcases Nat.lt_or_ge k i with q | q
 ·exact q
 ·rw [Ziw hm q] at h; cases h
theorem RelD.mkE (hA : allO Γ l (Zbn l) l 0 = true) (hd : Zcl l = true) {st : DSt} {i : Nat} {e : Envs} {pd : List (Nat × SO)} {m : Mem} (R : RelD Γ l base e0 st i e pd m) (hmi : Cl.mk (Zbn l) i < 2 ^ i) : ∀ (ts : List Nat),(∀ t ∈ ts,t < top ∧ Zo9 l (Zbn l) i t ≠ none) → Zgp l (Zbn l) i e0 st.ents ts = restr e ts
 | [],_ => rfl
 | t :: r,h => by
  obtain ⟨ht,hs⟩ := h t (List.mem_cons_self ..)
  simp only [Zgp,restr,RelD.mkE hA hd R hmi r fun t ht => h t (List.mem_cons_of_mem _ ht)]
  cases restr e r with
  | none => rfl
  | some e1 =>
   simp only [nblt,ht,decide_true,cond_true]
   cases hsrc : Zo9 l (Zbn l) i t with
   | none => exact absurd hsrc hs
   | some s =>
    unfold Zo9 at hsrc
    split at hsrc
    ·rename_i hw
     cases hsrc
     simp only
     rw [R.miss hA fun k o hk ho => Zjc hw k o ho (by omega)]
     rfl
    ·rename_i k' hw
     obtain ⟨o',q1,_,q2,_⟩ := Zhh hw
     rcases Zcc hsrc with ⟨hb,hsrc⟩ | ⟨_,hsrc⟩
     ·cases hsrc
      obtain ⟨x,hx,hg⟩ := R.hit hA hd (Znl hmi hb) (by simpa using q1) q2
      simp only [hx,hg]
     ·replace hsrc := Zar hsrc; obtain ⟨hb,hsrc⟩ := hsrc
      cases hsrc
      have hk' : Zpm Γ l (Zbn l) k' o' = true := by
       have := Ze2 Γ hA (j := k') (by simpa using q1)
       rwa [Nat.zero_add] at this
      have hik := Znl (Zc1 hk').1 hb
      simp only
      have hno : ∀ (k : Nat) (o : Oper),k < i → l[k]? = some o → o.dst ≠ some t := fun k o hk ho hdo => by
       have := Zff hd k k' o o' t ho (by simpa using q1) hdo q2
       omega
      rw [R.miss hA hno]
      rfl
theorem RelD.add (hA : allO Γ l (Zbn l) l 0 = true) {st : DSt} {i : Nat} {e : Envs} {pd : List (Nat × SO)} {m : Mem} (R : RelD Γ l base e0 st i e pd m) {o : Oper} (ho : l[i]? = some o) {x : Ent}
  (hr : x.kd = .read → kcT Γ o.op = .r ∧ ∃ e1,Zgp l (Zbn l) i e0 st.ents (Zex o.op) = some e1 ∧ ReadP Γ base st.ents (Cl.mk (Zbn l) i) e1 o.op x.v (st.abs,st.cur)) {pd' : List (Nat × SO)} (hp : pd' = pd ++ Zde 0 [x] i) : RelD Γ l base e0 (st.add x) (i + 1) (putE o.dst x.v e) pd' m := by
 have hlt : i < l.length := (List.getElem?_eq_some_iff.1 ho).1
 have mask : ∀ (y : Nat) (o : Oper),l[y]? = some o → Cl.mk (Zbn l) y < 2 ^ y := fun y o hy => by
  have := Ze2 Γ hA hy
  rw [Nat.zero_add] at this
  exact (Zc1 this).1
 refine ⟨by simp [DSt.add,R.len],hlt,?_,?_,R.cur,R.wf.addE x,fun k y hk => ?_,fun k hk => ?_,fun y o' x' hy hx' hk' => ?_⟩
 ·show _ = Zdq (l.take (i + 1)) (st.ents ++ [x]) e0
  have : l.take (i + 1) = l.take i ++ [o] := by rw [List.take_add_one,ho]; rfl
  rw [this,Zhz _ _ _ _ _ (by rw [R.len,List.length_take]; omega),← R.env]
 ·show _ = Zde st.abs (st.ents ++ [x]) 0
  rw [Zgd,← R.pd,hp,R.len,Nat.zero_add]
  congr 1
  simp only [Zde]
  have h1 : bit st.abs i = false := by
   cases h : bit st.abs i with
   | false => rfl
   | true => exact absurd (R.abs i h) (Nat.lt_irrefl _)
  cases x.kd <;> first | rfl | simp only [h1,Zgg]
 ·obtain ⟨h1,h2⟩ := R.main k y hk
  exact ⟨by omega,h2⟩
 ·have := R.abs k hk; omega
 ·rcases Nat.lt_or_ge y i with q | q
  ·have hx2 : st.ents[y]? = some x' := by
    have h3 : (st.ents ++ [x])[y]? = some x' := hx'
    rwa [List.getElem?_append_left (by rw [R.len]; exact q)] at h3
   obtain ⟨h1,e1,h2,j,qq,h3,h4,h5,h6⟩ := R.read y o' x' hy hx2 hk'
   exact ⟨h1,e1,Zhf ⟨[x],rfl⟩ _ _ h2,j,qq,h3,h4,h5,Zi4 (mask y o' hy) (by rw [R.len]; omega) h6⟩
  ·have hyl : y < (st.ents ++ [x]).length := (List.getElem?_eq_some_iff.1 hx').1
   have hyi : y = i := by simp [R.len] at hyl; omega
   subst hyi
   rw [ho] at hy; cases hy
   have h3 : (st.ents ++ [x])[y]? = some x' := hx'
   rw [List.getElem?_append_right (by rw [R.len]; omega),R.len,Nat.sub_self] at h3
   cases h3
   obtain ⟨h1,e1,h2,h6⟩ := hr hk'
   refine ⟨h1,e1,Zhf ⟨[x],rfl⟩ _ _ h2,st.mains.length,(st.abs,st.cur),R.wf.cur,Nat.le_refl _,fun k z hk => ⟨fun _ => (R.main k z hk).1,fun _ => (List.getElem?_eq_some_iff.1 hk).1⟩,Zi4 (mask y o ho) (by rw [R.len]; omega) h6⟩
theorem dop_ok (hA : allO Γ l (Zbn l) l 0 = true) (hd : Zcl l = true) {st : DSt} {i : Nat} {e : Envs} {pd : List (Nat × SO)} {m : Mem} (R : RelD Γ l base e0 st i e pd m) {o : Oper} (ho : l[i]? = some o) (hw : Zes l (Zbn l) st.ents i o.guard = some true) {k : Envs → List (Nat × SO) → Mem → Option Rs} {r : Rs}
  (h : (dopC Γ (Zbn l) i o).g rec base e pd m k = some r) : ∃ st1 e1 pd1 m1,Zgn Γ rec l (Zbn l) base e0 i o st = some st1 ∧ RelD Γ l base e0 st1 (i + 1) e1 pd1 m1 ∧ k e1 pd1 m1 = some r := by
 have hok : Zpm Γ l (Zbn l) i o = true := by
  have := Ze2 Γ hA ho
  rwa [Nat.zero_add] at this
 obtain ⟨hmi,hts,_,_,hH,hR⟩ := Zc1 hok
 have hmk := RelD.mkE hA hd R hmi (Zex o.op) hts
 have hbl : Nat.blt (Cl.mk (Zbn l) i) (2 ^ i) = true := by rw [nblt]; exact decide_eq_true hmi
 have hseen : Zj5 base (bit (Cl.mk (Zbn l) i)) pd m.h = addP base (seen (Cl.mk (Zbn l) i) st.abs) st.ents 0 st.cur.h := by
  rw [R.pd,R.cur,Zmc]; rfl
 unfold dopC at h
 split at h
 ·simp only [Zgx,Zse,Zgc] at h
  split at h
  ·rename_i e1 he1
   split at h
   ·rename_i v hv
    refine ⟨st.add ⟨v,.soft⟩,_,_,_,?_,R.add hA ho (x := ⟨v,.soft⟩) (by intro q; cases q) (by simp [Zde]),h⟩
    unfold Zgn
    simp only [hbl,cond_true,hw,hmk,he1,hv]
   ·cases h
  ·cases h
 ·rename_i hk
  split at h
  ·rename_i d hdo
   simp only [Zgx,Zk3,Zf0] at h
   split at h
   ·rename_i e1 he1
    split at h
    ·rename_i ob mk' hal
     refine ⟨st.add ⟨mk'.at (base + i),.alloc ob mk'⟩,e.set d (mk'.at (base + i)),_,_,?_,?_,h⟩
     ·unfold Zgn
      simp only [hbl,cond_true,hw,hmk,he1,(kc_a Γ hk e1 st.cur.h).1,hal,hdo]
     ·have := R.add hA ho (x := ⟨mk'.at (base + i),.alloc ob mk'⟩) (pd' := pd ++ [(i,ob)]) (by intro q; cases q) (by simp [Zde,Zgg])
      rw [hdo] at this
      exact this
    ·cases h
   ·cases h
  ·cases h
 ·rename_i hk
  simp only [Zgx,Zsc,Zgc,hseen] at h
  split at h
  ·rename_i e1 he1
   split at h
   ·rename_i h' hadd
    split at h
    ·rename_i v hv
     refine ⟨st.add ⟨v,.read⟩,_,_,_,?_,R.add hA ho (x := ⟨v,.read⟩) (fun _ => ⟨hk,e1,by rw [hmk]; exact he1,h',hadd,hv⟩) (by simp [Zde]),h⟩
     unfold Zgn
     simp only [hbl,cond_true,hw,hmk,he1,(kc_r Γ hk e1).1,(kc_r Γ hk e1).2,hadd,hv]
    ·cases h
   ·cases h
  ·cases h
 ·rename_i hk
  simp only [Zgx,Zpr,Zgc,hseen,Zf0] at h
  split at h
  ·rename_i e1 he1
   split at h
   ·rename_i h' hadd
    split at h
    ·rename_i v m' hv
     have hall : st.mains.all (bit (Cl.mk (Zbn l) i)) = true := by
      rw [List.all_eq_true]
      intro y hy
      obtain ⟨kk,hkk⟩ := List.getElem?_of_mem hy
      obtain ⟨h1,oy,h2,h3⟩ := R.main kk y hkk
      have := Zor Γ (hH hk) h2 h3
      rw [Nat.zero_add] at this
      simpa [nblt,h1] using this
     have hop : Zgn Γ rec l (Zbn l) base e0 i o st = some { ents := st.ents ++ [⟨v,.main⟩],mems := st.mems ++ [(Nat.lor st.abs (Cl.mk (Zbn l) i),m')],mains := st.mains ++ [i],abs := Nat.lor st.abs (Cl.mk (Zbn l) i),cur := m' } := by
      unfold Zgn
      have hv' : Zkh Γ rec e1 ⟨h',st.cur.n⟩ o.op = some (v,m') := by rw [← R.cur]; exact hv
      simp only [hbl,cond_true,hw,hmk,he1,(kc_h Γ hk e1 h').1,(kc_h Γ hk e1 h').2.2,hadd,(kc_h Γ hk e1 h').2.1,hall,hv']
     obtain ⟨_,hle,hwf,hlen,_⟩ := Zp4 hop R.len R.wf
     have hlt : i < l.length := (List.getElem?_eq_some_iff.1 ho).1
     refine ⟨_,_,_,_,hop,⟨hlen,hlt,?_,?_,rfl,hwf,fun kk y hy => ?_,fun kk hb => ?_,fun y o' x' hy hx' hk' => ?_⟩,h⟩
     ·show _ = Zdq (l.take (i + 1)) (st.ents ++ [⟨v,.main⟩]) e0
      have : l.take (i + 1) = l.take i ++ [o] := by rw [List.take_add_one,ho]; rfl
      rw [this,Zhz _ _ _ _ _ (by rw [R.len,List.length_take]; omega),← R.env]
     ·show _ = Zde (Nat.lor st.abs (Cl.mk (Zbn l) i)) (st.ents ++ [⟨v,.main⟩]) 0
      rw [Zgd,R.pd,Zso]
      simp [Zde]
     ·have hy : (st.mains ++ [i])[kk]? = some y := hy
      rcases Nat.lt_or_ge kk st.mains.length with q | q
      ·rw [List.getElem?_append_left q] at hy
       obtain ⟨h1,h2⟩ := R.main kk y hy
       exact ⟨by omega,h2⟩
      ·rw [List.getElem?_append_right q] at hy
       have : y = i := by
        cases hq : kk - st.mains.length with
        | zero => rw [hq] at hy; simpa using hy.symm
        | succ n => rw [hq] at hy; simp at hy
       subst this
       exact ⟨Nat.lt_succ_self _,o,ho,hk⟩
     ·have hb : bit (Nat.lor st.abs (Cl.mk (Zbn l) i)) kk = true := hb
      rw [Zgh,Bool.or_eq_true] at hb
      rcases hb with hb | hb
      ·have := R.abs kk hb; omega
      ·have := Znl hmi hb; omega
     ·rcases Nat.lt_or_ge y i with q | q
      ·have hx2 : st.ents[y]? = some x' := by
        have h3 : (st.ents ++ [⟨v,.main⟩])[y]? = some x' := hx'
        rwa [List.getElem?_append_left (by rw [R.len]; exact q)] at h3
       obtain ⟨h1,e2,h2,j,qq,h3,h4,h5,h6⟩ := R.read y o' x' hy hx2 hk'
       have hmy : Cl.mk (Zbn l) y < 2 ^ y := by
        have := Ze2 Γ hA hy
        rw [Nat.zero_add] at this
        exact (Zc1 this).1
       refine ⟨h1,e2,Zhf (ents := st.ents) (ents' := st.ents ++ [⟨v,.main⟩]) ⟨[⟨v,.main⟩],rfl⟩ _ _ h2,j,qq,Zdo hle.mems h3,by show j ≤ (st.mains ++ [i]).length; simp; omega,fun kk z hz => ?_,Zi4 hmy (by rw [R.len]; omega) h6⟩
       have hz : (st.mains ++ [i])[kk]? = some z := hz
       rcases Nat.lt_or_ge kk st.mains.length with q2 | q2
       ·rw [List.getElem?_append_left q2] at hz
        exact h5 kk z hz
       ·rw [List.getElem?_append_right q2] at hz
        have : z = i := by
         cases hq : kk - st.mains.length with
         | zero => rw [hq] at hz; simpa using hz.symm
         | succ n => rw [hq] at hz; simp at hz
        subst this
        exact ⟨fun _ => by omega,fun _ => by omega⟩
      ·have hyl : y < (st.ents ++ [(⟨v,.main⟩ : Ent)]).length := (List.getElem?_eq_some_iff.1 hx').1
       have hyi : y = i := by simp [R.len] at hyl; omega
       subst hyi
       have h3 : (st.ents ++ [⟨v,.main⟩])[y]? = some x' := hx'
       rw [List.getElem?_append_right (by rw [R.len]; omega),R.len,Nat.sub_self] at h3
       cases h3
       cases hk'
    ·cases h
   ·cases h
  ·cases h
 ·cases h
theorem dg_ok (hA : allO Γ l (Zbn l) l 0 = true) (hd : Zcl l = true) {st : DSt} {i : Nat} {e : Envs} {pd : List (Nat × SO)} {m : Mem} (R : RelD Γ l base e0 st i e pd m) {o : Oper} (ho : l[i]? = some o) {k : Envs → List (Nat × SO) → Mem → Option Rs} {r : Rs}
  (h : (dgC Γ l (Zbn l) i o).g rec base e pd m k = some r) : ∃ st1 e1 pd1 m1,Zgn Γ rec l (Zbn l) base e0 i o st = some st1 ∧ RelD Γ l base e0 st1 (i + 1) e1 pd1 m1 ∧ k e1 pd1 m1 = some r := by
 have hok : Zpm Γ l (Zbn l) i o = true := by
  have := Ze2 Γ hA ho
  rwa [Nat.zero_add] at this
 obtain ⟨hmi,_,hg,_,_,_⟩ := Zc1 hok
 have hbl : Nat.blt (Cl.mk (Zbn l) i) (2 ^ i) = true := by rw [nblt]; exact decide_eq_true hmi
 unfold dgC at h
 split at h
 ·rename_i hgn
  exact dop_ok hA hd R ho (by rw [hgn]; rfl) h
 ·rename_i q hgs
  obtain ⟨j,b⟩ := q
  split at h
  ·rename_i d b' hgc
   unfold Zss at hgc
   simp only at hgc
   split at hgc
   ·rename_i oj hj
    split at hgc
    ·rename_i d1 hdj
     cases hgc
     have hb := hg j b hgs
     obtain ⟨x,hx,hget⟩ := R.hit hA hd (Znl hmi hb) hj hdj
     split at h
     ·rename_i d' hd'
      simp only [Zjb,hget,Zk3] at h
      have skip : Zes l (Zbn l) st.ents i o.guard = some false → k (e.set d' Zfv) pd m = some r → ∃ st1 e1 pd1 m1,Zgn Γ rec l (Zbn l) base e0 i o st = some st1 ∧ RelD Γ l base e0 st1 (i + 1) e1 pd1 m1 ∧ k e1 pd1 m1 = some r := fun hw h => by
       refine ⟨st.add ⟨Zfv,.soft⟩,e.set d' Zfv,pd,m,?_,?_,h⟩
       ·unfold Zgn
        simp only [hbl,cond_true,hw,hd']
       ·have := R.add hA ho (x := ⟨Zfv,.soft⟩) (pd' := pd) (by intro q; cases q) (by simp [Zde])
        rw [hd'] at this
        exact this
      have hwd : Zes l (Zbn l) st.ents i o.guard = match x.v with | .b c => some (c == b) | .tup [] => some false | _ => none := by
       rw [hgs]; simp only [Zes,hb,cond_true,hj,hdj,hx] <;> rfl
      cases hxv : x.v with
      | b c =>
       rw [hxv] at h hwd
       rcases Zcc h with ⟨hcb,h⟩ | ⟨hcb,h⟩
       ·exact dop_ok hA hd R ho (by rw [hwd]; simp only [hcb]) h
       ·exact skip (by rw [hwd]; simp only [hcb]) h
      | tup lt =>
       rw [hxv] at h hwd
       cases lt with
       | nil => exact skip hwd h
       | cons _ _ => cases h
      | _ => rw [hxv] at h; cases h
     ·cases h
    ·cases hgc
   ·cases hgc
  ·cases h
theorem dops_ok (hA : allO Γ l (Zbn l) l 0 = true) (hd : Zcl l = true) {k : Envs → List (Nat × SO) → Mem → Option Rs} {r : Rs} : ∀ (ro : List Oper) (i : Nat) (st : DSt) (e : Envs) (pd : List (Nat × SO)) (m : Mem),l.drop i = ro → RelD Γ l base e0 st i e pd m → (dopsC Γ l (Zbn l) ro i).g rec base e pd m k = some r →
  ∃ st1 e1 pd1 m1,Zei Γ rec l (Zbn l) base e0 ro i st = some st1 ∧ RelD Γ l base e0 st1 l.length e1 pd1 m1 ∧ k e1 pd1 m1 = some r
 | [],i,st,e,pd,m,hdr,R,h => by
  have hi : i = l.length := by
   have := congrArg List.length hdr
   rw [List.length_drop] at this
   have := R.le
   simp at *; omega
  subst hi
  exact ⟨st,e,pd,m,rfl,R,h⟩
 | o :: ro,i,st,e,pd,m,hdr,R,h => by
  have ho : l[i]? = some o := by
   have := congrArg (fun x => x[0]?) hdr
   simpa [List.getElem?_drop] using this
  have hdr2 : l.drop (i + 1) = ro := by
   have := congrArg (List.drop 1) hdr
   simpa [List.drop_drop] using this
  simp only [dopsC] at h
  obtain ⟨st1,e1,pd1,m1,h1,R1,h2⟩ := dg_ok hA hd R ho h
  obtain ⟨st2,e2,pd2,m2,h3,R2,h4⟩ := dops_ok hA hd ro (i + 1) st1 e1 pd1 m1 hdr2 R1 h2
  exact ⟨st2,e2,pd2,m2,by simp only [Zei,h1]; exact h3,R2,h4⟩
theorem compat_get {ms mains : List Nat} {i j : Nat} (h : Zj1 ms mains i j = true) : (∀ k y,k < j → mains[k]? = some y → bit (mk ms y) i = false) ∧ (∀ k y,j ≤ k → mains[k]? = some y → bit (mk ms i) y = false) := by
 unfold Zj1 at h
 simp only [Bool.and_eq_true,List.all_eq_true] at h
 refine ⟨fun k y hk hy => ?_,fun k y hk hy => ?_⟩
 ·have := h.1 y (List.mem_of_getElem? (i := k) (by rw [List.getElem?_take,if_pos hk]; exact hy))
  simpa using this
 ·have := h.2 y (List.mem_of_getElem? (i := k - j) (by rw [List.getElem?_drop,show j + (k - j) = k by omega]; exact hy))
  simpa using this
theorem RelD.reads (hA : allO Γ l (Zbn l) l 0 = true) {st : DSt} {e : Envs} {pd : List (Nat × SO)} {m : Mem} (R : RelD Γ l base e0 st l.length e pd m) : Znq Γ l base e0 st := fun y o x ho hx hk => by
 obtain ⟨h1,e1,h2,j,q,h3,h4,h5,h6⟩ := R.read y o x ho hx hk
 refine ⟨e1,h2,fun j' q' hq' hc => ?_⟩
 have mask : ∀ (y : Nat) (o : Oper),l[y]? = some o → Zpm Γ l (Zbn l) y o = true := fun y o hy => by
  have := Ze2 Γ hA hy
  rwa [Nat.zero_add] at this
 have hord : ∀ (k z : Nat),st.mains[k]? = some z → (bit (Cl.mk (Zbn l) y) z || bit (Cl.mk (Zbn l) z) y) = true := fun k z hz => by
  obtain ⟨_,oz,g1,g2⟩ := R.main k z hz
  have := Zor Γ ((Zc1 (mask y o ho)).2.2.2.2.2 h1) g1 g2
  rwa [Nat.zero_add] at this
 obtain ⟨c1,c2⟩ := compat_get hc
 have hj' : j' ≤ st.mains.length := by
  have := (List.getElem?_eq_some_iff.1 hq').1
  rw [R.wf.len] at this; omega
 have hjj : j' = j := by
  rcases Nat.lt_trichotomy j' j with g | g | g
  ·exfalso
   have hz := List.getElem?_eq_getElem (show j' < st.mains.length by omega)
   have a1 := (h5 j' _ hz).1 g
   have a2 := c2 j' _ (Nat.le_refl _) hz
   have a3 := hord j' _ hz
   rw [a2,Bool.false_or] at a3
   obtain ⟨_,oz,g1,_⟩ := R.main j' _ hz
   have := Znl (Zc1 (mask _ oz g1)).1 a3
   omega
  ·exact g
  ·exfalso
   have hz := List.getElem?_eq_getElem (show j < st.mains.length by omega)
   have a1 : ¬ st.mains[j] < y := fun q => by have := (h5 j _ hz).2 q; omega
   have a2 := c1 j _ g hz
   have a3 := hord j _ hz
   rw [a2,Bool.or_false] at a3
   have := Znl (Zc1 (mask y o ho)).1 a3
   omega
 subst hjj
 rw [h3] at hq'; cases hq'
 exact h6
theorem drawC_ok {P : Program} {Ω : Opq} {N : Nat} {W : World} {F : Nat → Prop} {rs : List Res} {Gd : World → (Nat → Prop) → Prop} {n0 : Nat} {ρ0 : Rho} (hG : Gd W F) (hX : Zhv P Ω Γ) (hΓ : Zd0 P Γ) (hrec : ∀ f args m v m',rec (.call f args m) = some (.ret v m') → Zfj P Ω Gd f args m v m') (hNt : N ≤ top) (hmix : P.follows .mixedOrders = true) {id : Nat} (hok : ∀ o ∈ l,Zfk N o = true) (hd : Zcl l = true)
  {m0 : Mem} {e' : Envs} {m' : Mem} (h : (∃ st h',m0.n + l.length ≤ top ∧ Zei Γ rec l (Zbn l) m0.n e0 l 0 ⟨[],[(0,⟨m0.h,m0.n + l.length⟩)],[],0,⟨m0.h,m0.n + l.length⟩⟩ = some st ∧ Znq Γ l m0.n e0 st ∧ addP m0.n (fun k => !bit st.abs k) st.ents 0 st.cur.h = some h' ∧ e' = Zdq l st.ents e0 ∧ m' = ⟨h',st.cur.n⟩) ∨ Ziu Γ rec l e0 m0 = some (e',m'))
  {σ : Env} {w : World} (H : StE Ω W F rs n0 ρ0 e0 m0 σ w) {Q : Exit → Act → World → Prop} (hE : ∀ σ w,StE Ω W F rs n0 ρ0 e' m' σ w → E Q .normal N md0 σ w) : C P (.region id l.toArray true) Q N md0 σ w := by
 rcases h with ⟨st,h',htop,hloop,hreads,hadd,rfl,rfl⟩ | h
 ·exact Zp3 hG hX hΓ hrec hNt hmix hok hd htop hloop hreads hadd H hE
 ·exact draw_ok hG hX hΓ hrec hNt hmix hok hd h H hE
theorem drawC_some {m : Mem} {k : Envs → Mem → Option Rs} {r : Rs} (hd : Zcl l = true) (h : (drawC Γ l).g rec e0 m k = some r) : ∃ e' m',((∃ st h',m.n + l.length ≤ top ∧ Zei Γ rec l (Zbn l) m.n e0 l 0 ⟨[],[(0,⟨m.h,m.n + l.length⟩)],[],0,⟨m.h,m.n + l.length⟩⟩ = some st ∧ Znq Γ l m.n e0 st ∧ addP m.n (fun k => !bit st.abs k) st.ents 0 st.cur.h = some h' ∧ e' = Zdq l st.ents e0 ∧ m' = ⟨h',st.cur.n⟩) ∨ Ziu Γ rec l e0 m = some (e',m')) ∧ k e' m' = some r := by
 unfold drawC at h
 cases hA : allO Γ l (Zbn l) l 0 with
 | true =>
  rw [hA,cond_true] at h
  simp only [Zf0] at h
  replace h := Zar h; obtain ⟨htop,h⟩ := h
  have R0 : RelD Γ l m.n e0 ⟨[],[(0,⟨m.h,m.n + l.length⟩)],[],0,⟨m.h,m.n + l.length⟩⟩ 0 e0 [] ⟨m.h,m.n + l.length⟩ := by
   refine ⟨rfl,Nat.zero_le _,by simp [Zdq],rfl,rfl,?_,fun k y hk => by simp at hk,fun k hk => (by rw [Zgg] at hk; cases hk),fun y o x _ hx => by simp at hx⟩
   refine ⟨rfl,rfl,fun k y hk => by simp at hk,fun k k' y y' _ hk => by simp at hk,fun j a m hj k hk => ?_⟩
   cases j with
   | zero => simp at hj; obtain ⟨rfl,_⟩ := hj; rw [Zgg] at hk; cases hk
   | succ j => simp at hj
  obtain ⟨st,e1,pd1,m1,h1,R1,h2⟩ := dops_ok hA hd l 0 _ e0 [] _ (by simp) R0 h
  split at h2
  ·rename_i h' hab
   refine ⟨_,_,.inl ⟨st,h',Zcd htop,h1,R1.reads hA,?_,?_,?_⟩,h2⟩
   ·rw [R1.pd,R1.cur,Zmc] at hab
    exact hab
   ·rw [R1.env,List.take_length]
   ·rw [R1.cur]
  ·cases h2
 | false =>
  rw [hA,cond_false] at h
  simp only at h
  split at h
  ·rename_i e' m' hv
   exact ⟨e',m',.inr hv,h⟩
  ·cases h
end
end
end Cr.Cl
