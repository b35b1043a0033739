/-
  Closed runs,9: append,over named memory. Over any program.
  Closed runs,10: all operations that change memory ('mainOp_ok'). Over any program.
  Closed runs,11: one operation after the other; calls. Over any program.
  Closed runs,12: a statement whose order of evaluation Go leaves open: one evaluation serves every order. Operations that touch no memory,those that make an object of their own,and reads of what stays may be carried out whenever; what changes memory stands in one order. Over any program.
  Closed runs,13: what the evaluation of a statement that draws its order found,told of its end ('drawLoop_ok'). Over any program.
-/
import Derived.Test.YteonaddammjopaaGreatDoorCgl12
namespace Cr.Cl
open Go Go.MapKept
set_option maxRecDepth 4000
section
variable {P : Program} {Γ : Ctx} {Ω : Opq} {ρ : Rho} {w : World}
theorem own_store {T e cap n m b : Nat} {vs news : List Value} {W : World} {F : Nat → Prop} {rest : List Res} (hS : St W F (own T e (some ⟨b,0,none⟩) cap vs :: rest) w) (hle : n * e ≤ vs.length) (hl : news.length = m * e) (hroom : n + m ≤ cap) (hne : news ≠ []) (h1 : ∀ u ∈ news,u.oneCell' = true) :
  ∃ w',(storeCells ⟨b,n * e,none⟩ news 0).run P w = .ok () w' ∧ St W F (own T e (some ⟨b,0,none⟩) cap (vs.take (n * e) ++ news) :: rest) w' := by
 obtain ⟨f,⟨f1,f2,ho,hs,hd,hu⟩,s⟩ := hS
 have hpos : 0 < news.length := List.length_pos_iff.2 hne
 have hfit0 : n * e + m * e ≤ cap * e := by rw [← Nat.add_mul]; exact Nat.mul_le_mul_right _ hroom
 obtain ⟨hl1,hcm,⟨h0,_⟩ | ⟨b',cs,hb1,rfl,hcz,ht⟩⟩ := ho
 ·rw [h0] at hfit0; simp at hfit0; omega
 ·cases hb1
  have hS2 : St W F (pts b (.cells cs T (0,0)) :: rest) w := ⟨f,⟨_,f2,rfl,hs,hd,hu⟩,s⟩
  have hb := hS2.get
  have hst := run_storeCells_at P b (n * e) T news 0 cs w hb (by rw [hcz]; omega) h1
  simp only [Nat.add_zero] at hst
  have u := Zcp hb (Zby cs.toList (n * e) news).toArray
  refine ⟨_,hst,(hS2.set u).head fun g hg => Zcs (l := Zby cs.toList (n * e) news) (by rw [Zdk (by simp; omega)]; simpa using hcz) hcm ?_ g hg⟩
  have e1 : cs.toList.take (n * e) = vs.take (n * e) := by
   have := congrArg (List.take (n * e)) ht
   rw [List.take_take,Nat.min_eq_left hle] at this
   exact this
  unfold Zby
  rw [e1]
  exact List.take_left
theorem appSl_ok {m m' : Mem} (hb : ρ.below m.n) (htop : m.n ≤ top) {W : World} {F : Nat → Prop} {rs : List Res} (hS : St W F (res Ω ρ m.h ++ rs) w) {st xt ty el : TypeId} {ti : TI} (hU : P.underlying st = some (.slice el)) {z : Value} (hi : Inf P el z ti.size ti.bytes)
  (hnew : m.h.get m.n = none) {s' : SV} {xv : Value} {xs : List SV} {news : List Value} {k : Nat} (hx : AppArg P el ti.size xt xv k news w) (hxs : RepL ρ xs news) (_ : 0 < ti.size) (htop' : m.n < top) (_ : ∀ u ∈ news,u.oneCell' = true) (_ : news ≠ []) (_ : news.length = k * ti.size) {o off len cap : Nat} {sv : Value} (hs : Rep ρ (.sl o off len cap) sv) (hmax : len + k ≤ maxLen) (hfit : (len + k) * ti.bytes ≤ 140737488355328) (h : appSl m ti el xs k o off len cap = some (s',m')) :
  ∃ ρ' v w',ρ.ext m.n m'.n ρ' ∧ ρ'.below m'.n ∧ m'.n ≤ top ∧ Rep ρ' s' v ∧ (Builtin.append_ #[st,xt] ty #[sv,xv]).run P w = .ok v w' ∧ St W F (res Ω ρ' m'.h ++ rs) w' := by
 unfold appSl at h
 obtain ⟨L,hL,hlc,hq⟩ := hs
 cases hq
 rcases Zcc h with ⟨hr,h⟩ | ⟨hr,h⟩
 ·have hr := Zcd hr
  split at h
  ·rename_i h' hst
   cases h
   have ho : o < top := by
    rcases Nat.lt_or_ge o m.n with q | q
    ·omega
    ·rw [hb o q] at hL; cases hL
   obtain ⟨_,_,w',g1,g2⟩ := Zgt (P := P) hS ho hxs hL hst
   have := Zgj (ty := ty) hU hi hx (n := len) (m := k) (c := cap) (a := some ⟨L.1,off,none⟩) hr (w' := w') (by simp only [Zcn]; exact g1)
   exact ⟨ρ,_,w',Rho.ext.rfl,hb,htop,⟨L,hL,by omega,rfl⟩,this,g2⟩
  ·cases h
 ·have hr : ¬ (len + k ≤ cap) := fun q => by rw [nble] at hr; simp at hr; omega
  split at h
  ·rename_i c0 hc0
   cases h
   obtain ⟨vs,q1,q2,q3⟩ := Zkp (Ω := Ω) (a := some ⟨L.1,off,none⟩) (m := len) (c := cap) (St.heapRd hS) (v := .sl o off len cap) ⟨L,hL,hlc,rfl⟩ hc0
   obtain ⟨b,c',w',hrun,hS',hc'⟩ := Zjg (ty := ty) hU hi hx hr hS q3 q2 hfit hmax
   have hle := Rho.add_le (L := (b,c')) (hb m.n (Nat.le_refl _))
   refine ⟨ρ.add m.n (b,c'),_,w',Rho.ext.add (hb m.n (Nat.le_refl _)),hb.add _,by show m.n + 1 ≤ top; omega,⟨(b,c'),Rho.add_self _ _ _,by simpa using hc',by simp⟩,hrun,?_⟩
   exact St.new htop' hnew (St.head (St.mono' hle hS') fun g hg => ⟨(b,c'),_,Rho.add_self _ _ _,RepL.mono hle _ _ (RepL.append q1 hxs),hg⟩)
  ·cases h
theorem appSlu_ok {m m' : Mem} (hb : ρ.below m.n) (htop : m.n ≤ top) {W : World} {F : Nat → Prop} {rs : List Res} (hS : St W F (res Ω ρ m.h ++ rs) w) {st xt ty el : TypeId} {ti : TI} (hU : P.underlying st = some (.slice el)) {z : Value} (hi : Inf P el z ti.size ti.bytes)
  (hnew : m.h.get m.n = none) {s' : SV} {xv : Value} {xs : List SV} {news : List Value} {k : Nat} (hx : AppArg P el ti.size xt xv k news w) (hxs : RepL ρ xs news) (hsz0 : 0 < ti.size) (htop' : m.n < top) (hones : ∀ u ∈ news,u.oneCell' = true) (hne : news ≠ []) (hlx : news.length = k * ti.size) {o sz j len : Nat} {sv : Value} (hs : Rep ρ (.slu o sz j len) sv) (hmax : len + k ≤ maxLen) (hfit : (len + k) * ti.bytes ≤ 140737488355328) (h : appSlu m ti el xs k o sz j len = some (s',m')) :
  ∃ ρ' v w',ρ.ext m.n m'.n ρ' ∧ ρ'.below m'.n ∧ m'.n ≤ top ∧ Rep ρ' s' v ∧ (Builtin.append_ #[st,xt] ty #[sv,xv]).run P w = .ok v w' ∧ St W F (res Ω ρ' m'.h ++ rs) w' := by
 unfold appSlu at h
 replace h := Zar h; obtain ⟨h4,h⟩ := h
 simp only [Bool.and_eq_true] at h4
 obtain ⟨h4,h5⟩ := h4
 have h4 := Zce h4; have h5 := Zce h5
 subst h5; subst h4
 obtain ⟨L,hL,hlc,hq⟩ := hs
 cases hq
 simp only [Nat.zero_mul,Nat.sub_zero,Nat.zero_add] at *
 have ho : o < top := by
  rcases Nat.lt_or_ge o m.n with q | q
  ·omega
  ·rw [hb o q] at hL; cases hL
 split at h
 ·rename_i t sz' c0 hg
  replace h := Zar h; obtain ⟨h6,h⟩ := h
  simp only [Bool.and_eq_true] at h6
  obtain ⟨⟨h6,h7⟩,h8⟩ := h6
  have h6 := Zce h6; have h7 := Zce h7; have h8 := Zcd h8
  subst h7; subst h6
  rcases Zcc h with ⟨hr,h⟩ | ⟨hr,h⟩
  ·have hr := Zcd hr
   split at h
   ·rename_i h' hst
    cases h
    -- the known cells lie within the capacity
    have hcap : len + k ≤ L.2 := by
     obtain ⟨f,⟨L',ws,g1,g2,g3⟩,_⟩ := St.rdO hg hS
     rw [hL] at g1; cases g1
     have := g3.1
     rw [RepL.length g2] at this
     exact Nat.le_of_mul_le_mul_right (Nat.le_trans hr this) hsz0
    obtain ⟨_,_,w',g1,g2⟩ := Zgt (P := P) hS ho hxs hL hst
    have := Zgj (ty := ty) hU hi hx (n := len) (m := k) (c := L.2) (a := some ⟨L.1,0,none⟩) hcap (w' := w') (by simp only [Zcn,Nat.zero_add]; exact g1)
    exact ⟨ρ,_,w',Rho.ext.rfl,hb,htop,⟨L,hL,by omega,by simp⟩,this,g2⟩
   ·cases h
  ·cases h
   have hS1 := St.out ho hg hS
   have hnew' : (m.h.erase o).get m.n = none := by
    rw [Heap.get_erase m.n ho,hnew]; simp
   obtain ⟨f,⟨f1,f2,⟨L',ws,g1,g2,g3⟩,hs2,hd,hu'⟩,s⟩ := hS1
   rw [hL] at g1; cases g1
   have hS2 : St W F (own t ti.size (some ⟨L.1,0,none⟩) L.2 ws :: (res Ω ρ (m.h.erase o) ++ rs)) w := ⟨f,⟨f1,f2,g3,hs2,hd,hu'⟩,s⟩
   have hwl := RepL.length g2
   by_cases hroom : len + k ≤ L.2
   ·obtain ⟨w',q1,q2⟩ := own_store (P := P) hS2 (n := len) (m := k) (by omega) hlx hroom hne hones
    have := Zgj (ty := ty) hU hi hx (n := len) (m := k) (c := L.2) (a := some ⟨L.1,0,none⟩) hroom (w' := w') (by simp only [Zcn,Nat.zero_add]; exact q1)
    have hle := Rho.add_le (L := L) (hb m.n (Nat.le_refl _))
    refine ⟨ρ.add m.n L,_,w',Rho.ext.add (hb m.n (Nat.le_refl _)),hb.add _,by show m.n + 1 ≤ top; omega,⟨L,Rho.add_self _ _ _,by omega,by simp⟩,this,?_⟩
    exact St.new htop' hnew' (St.head (St.mono' hle q2) fun g hg => ⟨L,_,Rho.add_self _ _ _,RepL.mono hle _ _ (RepL.append (RepL.take _ g2) hxs),hg⟩)
   ·have hrd : Rd w (row (some ⟨L.1,0,none⟩) (ws.take (len * ti.size))) := (hS2.rd (List.mem_cons_self ..)).own_row.mono (by
     have := row.part (a := some ⟨L.1,0,none⟩) (cs := ws) (cs' := ws.take (len * ti.size)) (i := 0) (fun j v hv => by
      rw [List.getElem?_take] at hv; split at hv
      ·simpa using hv
      ·cases hv)
     simpa [adr] using this)
    obtain ⟨b,c',w',hrun,hS',hc'⟩ := Zjg (ty := ty) hU hi hx hroom hS2.drop hrd (by simp; omega) hfit hmax
    have hle := Rho.add_le (L := (b,c')) (hb m.n (Nat.le_refl _))
    refine ⟨ρ.add m.n (b,c'),_,w',Rho.ext.add (hb m.n (Nat.le_refl _)),hb.add _,by show m.n + 1 ≤ top; omega,⟨(b,c'),Rho.add_self _ _ _,by simpa using hc',by simp⟩,hrun,?_⟩
    exact St.new htop' hnew' (St.head (St.mono' hle hS') fun g hg => ⟨(b,c'),_,Rho.add_self _ _ _,RepL.mono hle _ _ (RepL.append (RepL.take _ g2) hxs),hg⟩)
 ·cases h
theorem appendS_ok (hΓ : Zd0 P Γ) {m m' : Mem} (hb : ρ.below m.n) (htop : m.n ≤ top) {W : World} {F : Nat → Prop} {rs : List Res} (hS : St W F (res Ω ρ m.h ++ rs) w) {st xt ty el : TypeId} {ti : TI} (hu : und Γ st = some (.slice el)) (hti : Γ.ty.get el = some ti)
  (hnew : m.h.get m.n = none) {s s' : SV} {sv xv : Value} {xs : List SV} {news : List Value} {k : Nat} (hs : Rep ρ s sv) (hx : AppArg P el ti.size xt xv k news w) (hxs : RepL ρ xs news) (h : Zjh m ti el s xs k = some (s',m')) :
  ∃ ρ' v w',ρ.ext m.n m'.n ρ' ∧ ρ'.below m'.n ∧ m'.n ≤ top ∧ Rep ρ' s' v ∧ (Builtin.append_ #[st,xt] ty #[sv,xv]).run P w = .ok v w' ∧ St W F (res Ω ρ' m'.h ++ rs) w' := by
 have hU := (Zcb hΓ hu).und
 obtain ⟨z,hi,hz2,_,_⟩ := (hΓ el ti hti).inf
 have hlx := hx.length
 unfold Zjh at h
 replace h := Zar h; obtain ⟨h1,h⟩ := h
 simp only [Bool.and_eq_true] at h1
 obtain ⟨⟨hone,hsz0⟩,htop'⟩ := h1
 have hsz0 := Zcx hsz0
 have htop' := Zcx htop'
 have hones := RepL.ones hxs hone
 split at h
 ·rename_i n hn
  replace h := Zar h; obtain ⟨h2,h⟩ := h
  simp only [Bool.and_eq_true] at h2
  obtain ⟨h2,h3⟩ := h2
  have h2 := Zcd h2; have h3 := Zcd h3
  obtain ⟨a,c,rfl,hnc⟩ := Zd6 hs hn
  have hmax : n + k ≤ maxLen := by simp only [maxLen]; omega
  have hfit : (n + k) * ti.bytes ≤ 140737488355328 := by omega
  rcases Zcc h with ⟨hk,h⟩ | ⟨hk,h⟩
  ·have hk := Zce hk; subst hk
   cases h
   have : news = [] := List.eq_nil_of_length_eq_zero (by simpa using hlx)
   subst this
   have := Zgj (ty := ty) hU hi hx (n := n) (m := 0) (c := c) (a := a) (by omega) (w' := w) (by cases a <;> simp [storeCells])
   exact ⟨ρ,_,w,Rho.ext.rfl,hb,htop,hs,this,hS⟩
  ·have hk0 : k ≠ 0 := by intro q; subst q; cases hk
   have hne : news ≠ [] := by
    intro q; subst q
    have hlx' : k * ti.size = 0 := by simpa using hlx.symm
    rcases Nat.mul_eq_zero.1 hlx' with q | q
    ·exact hk0 q
    ·omega
   split at h
   ·cases h
    cases hs
    have hno : ¬ (0 + k ≤ 0) := by omega
    obtain ⟨b,c',w',hrun,hS',hc'⟩ := Zjg (ty := ty) (a := none) (cs := []) hU hi hx hno hS (Zka _ _) (by simp) hfit hmax
    have hle := Rho.add_le (L := (b,c')) (hb m.n (Nat.le_refl _))
    refine ⟨ρ.add m.n (b,c'),_,w',Rho.ext.add (hb m.n (Nat.le_refl _)),hb.add _,by show m.n + 1 ≤ top; omega,⟨(b,c'),Rho.add_self _ _ _,by simpa using hc',by simp⟩,hrun,?_⟩
    refine St.new htop' hnew (St.head (St.mono' hle hS') fun g hg => ⟨(b,c'),news,Rho.add_self _ _ _,RepL.mono hle _ _ hxs,by simpa using hg⟩)
   ·simp only [lenOf,Option.some.injEq] at hn; subst hn
    exact appSl_ok hb htop hS hU hi hnew hx hxs hsz0 htop' hones hne hlx hs hmax hfit h
   ·simp only [lenOf,Option.some.injEq] at hn; subst hn
    exact appSlu_ok hb htop hS hU hi hnew hx hxs hsz0 htop' hones hne hlx hs hmax hfit h
   ·cases h
 ·cases h
end
end Cr.Cl
namespace Cr.Cl
open Go Go.MapKept
set_option maxRecDepth 4000
section
variable {P : Program} {Γ : Ctx} {Ω : Opq} {ρ : Rho} {o : Oper} {σ : Env} {w : World} {e : Envs}
theorem keq_eq {d : TypeDesc} {k a : SV} {kv av : Value} (hk : Rep ρ k kv) (ha : Rep ρ a av) (h : keq d k a = some true) : av = kv := by
 unfold keq at h
 split at h
 ·replace h := Zar h; obtain ⟨h1,h⟩ := h
  have := Zja h1; subst this
  simp only [Option.some.injEq,Zjy,decide_eq_true_eq] at h
  subst h; cases hk; cases ha; rfl
 ·simp only [Option.some.injEq,Zsl,decide_eq_true_eq] at h
  subst h; obtain ⟨_,rfl⟩ := hk; obtain ⟨_,rfl⟩ := ha; rfl
 ·simp only [Option.some.injEq,beq_iff_eq] at h
  subst h; cases hk; cases ha; rfl
 ·cases h
theorem Zpa {d : TypeDesc} {k : SV} {kv : Value} (hk : Rep ρ k kv) (h : Zoe d k = true) (n : Nat) : Instr.sameBits n kv kv = true := by
 unfold Zoe at h
 split at h
 ·cases hk; cases n <;> simp [Instr.sameBits]
 ·obtain ⟨_,rfl⟩ := hk; cases n <;> simp [Instr.sameBits,Go.beq_toListBytes]
 ·cases hk; cases n <;> simp [Instr.sameBits]
 ·cases h
theorem setK_ok {d : TypeDesc} {k v : SV} {kv vv : Value} (hk : Rep ρ k kv) (hv : Rep ρ v vv) : ∀ (es : List (SV × SV × Nat)) (l : List MapEntry) (i : Nat) (r : SV),RepE ρ es l → Zki d k es = some (some r) →
  ∃ j u,Instr.findNow d kv l i = some (some (i + j,u)) ∧ (l[j]?).map (·.key) = some kv ∧ RepE ρ (setK d k v es) (l.modify j fun e => { e with key := kv,val := vv })
 | [],l,i,r,he,h => by cases h
 | (a,u,n) :: es,l,i,r,⟨e,l',h1,h2,h3,h4,hl⟩,h => by
  subst hl
  simp only [Zki] at h
  split at h
  ·rename_i hq
   have := Zna hk h1 hq
   refine ⟨0,e.val,by simp [Instr.findNow,this],by simp [keq_eq hk h1 hq],?_⟩
   simp only [setK,hq,List.modify_zero_cons]
   exact ⟨{ e with key := kv,val := vv },l',hk,hv,h3,h4,rfl⟩
  ·rename_i hq
   have := Zna hk h1 hq
   obtain ⟨j,u',g1,g2,g3⟩ := setK_ok hk hv es l' (i + 1) r h4 h
   refine ⟨j + 1,u',?_,by simpa using g2,?_⟩
   ·simp only [Instr.findNow,this,g1]
    rw [show i + 1 + j = i + (j + 1) by omega]
   ·simp only [setK,hq,List.modify_succ_cons]
    exact ⟨e,_,h1,h2,h3,g3,rfl⟩
  ·cases h
theorem delK_ok {d : TypeDesc} {k : SV} {kv : Value} (hk : Rep ρ k kv) : ∀ (es : List (SV × SV × Nat)) (l : List MapEntry) (i : Nat) (r : Option SV),RepE ρ es l → Zki d k es = some r →
  (Instr.findNow d kv l i = some none ∧ delK d k es = es) ∨ ∃ j u,Instr.findNow d kv l i = some (some (i + j,u)) ∧ j < l.length ∧ RepE ρ (delK d k es) (l.eraseIdx j)
 | [],l,i,r,he,h => by cases he; exact .inl ⟨rfl,rfl⟩
 | (a,u,n) :: es,l,i,r,⟨e,l',h1,h2,h3,h4,hl⟩,h => by
  subst hl
  simp only [Zki] at h
  split at h
  ·rename_i hq
   have := Zna hk h1 hq
   refine .inr ⟨0,e.val,by simp [Instr.findNow,this],by simp,?_⟩
   simp only [delK,hq,List.eraseIdx_zero,List.tail_cons]
   exact h4
  ·rename_i hq
   have := Zna hk h1 hq
   rcases delK_ok hk es l' (i + 1) r h4 h with ⟨g1,g2⟩ | ⟨j,u',g1,g2,g3⟩
   ·exact .inl ⟨by simp [Instr.findNow,this,g1],by simp only [delK,hq,g2]⟩
   ·refine .inr ⟨j + 1,u',?_,by simp; omega,?_⟩
    ·simp only [Instr.findNow,this,g1]
     rw [show i + 1 + j = i + (j + 1) by omega]
    ·simp only [delK,hq,List.eraseIdx_cons_succ]
     exact ⟨e,_,h1,h2,h3,g3,rfl⟩
  ·cases h
theorem RepE.append : ∀ {es : List (SV × SV × Nat)} {l : List MapEntry} {k v : SV} {kv vv : Value} {n : Nat},RepE ρ es l → Rep ρ k kv → Rep ρ v vv → RepE ρ (es ++ [(k,v,n)]) (l ++ [⟨kv,vv,n⟩])
 | [],_,_,_,_,_,_,h,hk,hv => by cases h; exact ⟨_,[],hk,hv,rfl,rfl,rfl⟩
 | (_,_,_) :: _,_,_,_,_,_,_,⟨e,l',h1,h2,h3,h4,hl⟩,hk,hv => by subst hl; exact ⟨e,_,h1,h2,h3,RepE.append h4 hk hv,rfl⟩
theorem St.mapAt {W : World} {F : Nat → Prop} {h : Heap} {n : Nat} {es : List (SV × SV × Nat)} {cl : Nat} {rs : List Res} (hn : n < top) (hg : h.get n = some (.mp es cl)) (hS : St W F (res Ω ρ h ++ rs) w) {L : Nat × Nat} (hL : ρ n = some L) :
  ∃ l,RepE ρ es l ∧ w.heap[L.1]? = some (.map l.toArray cl) ∧ ∀ (es' : List (SV × SV × Nat)) (l' : List MapEntry) (cl' : Nat),RepE ρ es' l' → St W F (res Ω ρ (h.set n (.mp es' cl')) ++ rs) { w with heap := w.heap.setIfInBounds L.1 (.map l'.toArray cl') } := by
 obtain ⟨f,⟨f1,f2,⟨L',l,g1,g2,g3⟩,hs2,hd,hu⟩,s⟩ := St.out hn hg hS
 rw [hL] at g1; cases g1
 have hS2 : St W F (pts L.1 (.map l.toArray cl) :: (res Ω ρ (h.erase n) ++ rs)) w := ⟨f,⟨f1,f2,g3,hs2,hd,hu⟩,s⟩
 refine ⟨l,g2,hS2.get,fun es' l' cl' hr => ?_⟩
 exact St.back _ hn hg ((hS2.set (Zcf (o' := .map l'.toArray cl') hS2.get)).head fun g hg => ⟨L,l',hL,hr,hg⟩)
def Does (P : Program) (Ω : Opq) (ρ : Rho) (o : Oper) (σ : Env) (w : World) (W : World) (F : Nat → Prop) (rs : List Res) (n : Nat) (s : SV) (m' : Mem) : Prop :=
 ∃ ρ' v w',ρ.ext n m'.n ρ' ∧ ρ'.below m'.n ∧ m'.n ≤ top ∧ Rep ρ' s v ∧ (∀ N ds a,Fr σ N ds a → (execOp a.eval o).run P w = .ok (.value v) w' ∨ ((execOp a.eval o).run P w = .ok .skip w' ∧ v = undef)) ∧ St W F (res Ω ρ' m'.h ++ rs) w'
theorem Zen {n k : Nat} {L : Nat × Nat} (hb : ρ.below n) (ht : n ≤ top) (h : ρ k = some L) : k < top := by
 rcases Nat.lt_or_ge k n with q | q
 ·omega
 ·rw [hb k q] at h; cases h
theorem Ztm (hΓ : Zd0 P Γ) (he : EnvR ρ e σ) {m m' : Mem} (hb : ρ.below m.n) (ht : m.n ≤ top) {W : World} {F : Nat → Prop} {rs : List Res} (hS : St W F (res Ω ρ m.h ++ rs) w) {t : TypeId} {x y : Operand} (ho : o.op = .store t x y) {s : SV} (h : Zfy Γ e m (.store t x y) = some (s,m')) : Does P Ω ρ o σ w W F rs m.n s m' := by
 simp only [Zfy] at h
 split at h
 ·rename_i n off hx
  split at h
  ·rename_i v hy
   split at h
   ·rename_i sz hsz
    replace h := Zar h; obtain ⟨hl,h⟩ := h
    split at h
    ·rename_i h' hst
     cases h
     have hl := Zce hl
     obtain ⟨u,⟨L,hL,rfl⟩,hx⟩ := Zbo he hx
     obtain ⟨u',hu',hy⟩ := Zbo he hy
     have hc := Rep.cells hu'
     obtain ⟨_,_,w',g1,g2⟩ := Zgt (P := P) hS (Zen hb ht hL) hc hL hst
     have hs := Zjo hΓ hsz
     have hlen : u'.cells.size = sz := by have := RepL.length hc; simp at this; omega
     refine ⟨ρ,undef,w',Rho.ext.rfl,hb,ht,⟨[],rfl,rfl⟩,fun N ds a ha => .inr ⟨?_,rfl⟩,g2⟩
     simp [execOp,ho,ha.eval hx,ha.eval hy,Instr.storeAt,Instr.sureAddr,storeVar,Zb3 (n := sz),hlen,g1]
    ·cases h
   ·cases h
  ·cases h
 ·cases h
theorem convOp_ok (hΓ : Zd0 P Γ) (he : EnvR ρ e σ) {m m' : Mem} (hb : ρ.below m.n) (ht : m.n ≤ top) {W : World} {F : Nat → Prop} {rs : List Res} (hS : St W F (res Ω ρ m.h ++ rs) w) {s0 d0 : TypeId} {x : Operand} (ho : o.op = .convert s0 d0 x) {s : SV} (h : Zfy Γ e m (.convert s0 d0 x) = some (s,m')) : Does P Ω ρ o σ w W F rs m.n s m' := by
 simp only [Zfy] at h
 replace h := Zar h; obtain ⟨hsd,h⟩ := h
 have hsd := Zce hsd; subst hsd
 split at h
 ·rename_i el hd
  split at h
  ·rename_i hel
   split at h
   ·rename_i n k c hx
    split at h
    ·rename_i t sz cs hg
     replace h := Zar h; obtain ⟨hq,h⟩ := h
     simp only [Bool.and_eq_true] at hq
     have hsz := Zce hq.1; have hpos := Zcx hq.2
     subst hsz
     cases h
     obtain ⟨u,⟨L,hL,hkc,rfl⟩,hx⟩ := Zbo he hx
     have hn := Zen hb ht hL
     obtain ⟨f,⟨f1,f2,⟨L',vs,g1,g2,g3⟩,hs2,hdj,hun⟩,st⟩ := St.out hn hg hS
     rw [hL] at g1; cases g1
     have hlen := RepL.length g2
     obtain ⟨hle,hcm,⟨h0,_⟩ | ⟨b',cells,hbe,rfl,hcz,htk⟩⟩ := g3
     ·rw [h0,Nat.zero_mul] at hle; omega
     ·cases hbe
      have hS2 : St W F (pts L.1 (.cells cells t (0,0)) :: (res Ω ρ (m.h.erase n) ++ rs)) w := ⟨f,⟨_,f2,rfl,hs2,hdj,hun⟩,st⟩
      have hbk := hS2.get
      have uu : SetBlock w (w.freeze ⟨L.1,cells.size,none⟩ 1) L.1 (.cells cells t (cells.size,cells.size + 1)) := by
       unfold World.freeze
       rw [if_neg (by omega)]
       refine ⟨by simp,?_,fun k hk => ?_,rfl,rfl,rfl⟩
       ·rw [Array.getElem?_modify,if_pos rfl,hbk]; rfl
       ·rw [Array.getElem?_modify,if_neg (Ne.symm hk)]
      have hsh : (shape L.1).run P w = .ok (some (t,cells.size)) w := by simp [shape,Sem.run,World.shape?,hbk]
      have hms : (markStringish ⟨L.1,0,none⟩).run P w = .ok () (w.freeze ⟨L.1,cells.size,none⟩ 1) := by
       unfold markStringish
       rw [Sem.run_bind,hsh]
       rfl
      have i1 := (Zcb hΓ hd).und
      have i2 := (Zcb hΓ hel).und
      refine ⟨ρ,_,_,Rho.ext.rfl,hb,ht,⟨L,hL,hkc,rfl⟩,fun N ds a ha => .inl ?_,St.back (.ro cs) hn hg ((hS2.set uu).head fun g hg => ⟨L,vs,hL,g2,.inr ⟨L.1,0,cells,t,_,rfl,hg,fun i v hv => ?_⟩⟩)⟩
      ·simp [execOp,ho,ha.eval hx,convert,run_underlying i1,run_underlying i2,hms,Result.andThen]
      ·rw [← htk,List.getElem?_take] at hv
       split at hv
       ·simpa using hv
       ·cases hv
    ·cases h
   ·cases h
  ·cases h
 ·cases h
theorem Zsi (hΓ : Zd0 P Γ) (he : EnvR ρ e σ) {m m' : Mem} (hb : ρ.below m.n) (ht : m.n ≤ top) {W : World} {F : Nat → Prop} {rs : List Res} (hS : St W F (res Ω ρ m.h ++ rs) w) {t : TypeId} {x k v : Operand} (ho : o.op = .mapUpdate t x k v ∨ o.op = .insert t x k v) {s : SV} (h : Zfy Γ e m (.mapUpdate t x k v) = some (s,m')) : Does P Ω ρ o σ w W F rs m.n s m' := by
 simp only [Zfy] at h
 split at h
 ·rename_i kt et hd
  split at h
  ·rename_i d hdk
   split at h
   ·rename_i n hx
    split at h
    ·rename_i k' hk
     split at h
     ·rename_i v' hv
      split at h
      ·rename_i es cl hg
       obtain ⟨u,⟨L,hL,rfl⟩,hx⟩ := Zbo he hx
       obtain ⟨kv,hkv,hk⟩ := Zbo he hk
       obtain ⟨vv,hvv,hv⟩ := Zbo he hv
       have i1 := (Zcb hΓ hd).und
       have i2 := (Zcb hΓ hdk).und
       obtain ⟨l,g1,g2,g3⟩ := St.mapAt (Zen hb ht hL) hg hS hL
       have hgo : (getObj L.1).run P w = .ok (.map l.toArray cl) w := by simp [getObj,Sem.run,g2]
       have hset : ∀ o',(setObj L.1 o').run P w = .ok () { w with heap := w.heap.setIfInBounds L.1 o' } := fun o' => run_setObj_map o' g2
       have hex : ∀ a N ds,Fr σ N ds a → execOp a.eval o = (do Instr.mapUpdate t (.map (some L.1)) kv vv; pure .skip) := fun a N ds ha => by
        rcases ho with ho | ho <;> simp [execOp,ho,ha.eval hx,ha.eval hk,ha.eval hv]
       have hko : Zoe d k' = true ∧ ∀ r,findKey d k' es = some r → Zki d k' es = some r := by
        unfold findKey at h
        cases q : Zoe d k' with
        | false => simp only [q,cond_false] at h; cases h
        | true => exact ⟨rfl,fun r hr => by simpa [findKey,q] using hr⟩
       have hck : (Instr.checkKey false 10000 kt kv).run P w = .ok () w := run_checkKey (n := 9999) i2 (Zod hkv hko.1) _
       split at h
       ·rename_i r hr
        cases h
        obtain ⟨j,u',q1,q2,q3⟩ := setK_ok hkv hvv es l 0 r g1 (hko.2 _ hr)
        have hf := run_findKey (P := P) (w := w) i2 q1
        simp only [Nat.zero_add] at hf
        refine ⟨ρ,undef,_,Rho.ext.rfl,hb,ht,⟨[],rfl,rfl⟩,fun N ds a ha => .inr ⟨?_,rfl⟩,g3 _ _ cl q3⟩
        have hek : ((l.toArray[j]?).map (·.key)).getD kv = kv := by simp [q2]
        rw [hex a N ds ha]
        simp only [Instr.mapUpdate,Sem.run_bind,run_underlying i1,hgo,hck,hf,hset,Result.andThen_ok,Sem.run_pure,hek,Instr.keyThatStays,Zpa hkv hko.1,if_true]
        simp
       ·rename_i hr
        cases h
        rcases Zoh hkv es l 0 none g1 (hko.2 _ hr) with ⟨_,q1⟩ | ⟨_,_,_,q,_⟩
        ·have hf := run_findKey (P := P) (w := w) i2 q1
         refine ⟨ρ,undef,_,Rho.ext.rfl,hb,ht,⟨[],rfl,rfl⟩,fun N ds a ha => .inr ⟨?_,rfl⟩,g3 _ _ (cl + 1) (RepE.append (n := cl) g1 hkv hvv)⟩
         rw [hex a N ds ha]
         simp only [Instr.mapUpdate,Sem.run_bind,run_underlying i1,hgo,hck,hf,hset,Result.andThen_ok,Sem.run_pure]
         simp
        ·cases q
       ·cases h
      ·cases h
     ·cases h
    ·cases h
   ·cases h
  ·cases h
 ·cases h
theorem srcOf_ok {h : Heap} (hR : Zhu Ω ρ h w) {sz a n : Nat} {x : SV} {xv : Value} (hx : Rep ρ x xv) {xs : List SV} (hs : srcOf h sz a x = some (n,xs)) :
  ∃ us b,RepL ρ xs us ∧ n = Nat.min b a ∧ (Builtin.lenOf xv).run P w = .ok b w ∧ (Builtin.firstCells sz (Nat.min b a) xv).run P w = .ok us.toArray w ∧ (Nat.min b a = 0 → us = []) := by
 unfold srcOf at hs
 split at hs
 ·rename_i l
  cases hs
  obtain ⟨h256,rfl⟩ := hx
  have key : ∀ l : List Nat,(∀ x ∈ l,x < 256) → RepL ρ (Zj3 l) (bv (l.map UInt8.ofNat)) := by
   intro l
   induction l with
   | nil => intro _; exact RepL.nil
   | cons q l ih =>
    intro hq
    refine RepL.cons ?_ (ih fun x hx => hq x (List.mem_cons_of_mem _ hx))
    have : q < 256 := hq q (List.mem_cons_self ..)
    show Value.int .u8 _ = Value.int .u8 _
    simp [Nat.mod_eq_of_lt this]
  refine ⟨bv ((l.take (Nat.min l.length a)).map UInt8.ofNat),l.length,key _ fun x hx => h256 x (List.mem_of_mem_take hx),rfl,by simp [Builtin.lenOf,bs_size],?_,fun q => by simp [q,bv]⟩
  simp [Builtin.firstCells,bs,bv,List.map_take]
 ·split at hs
  ·rename_i b hb
   split at hs
   ·rename_i c hc
    cases hs
    obtain ⟨q,cp,rfl,_⟩ := Zd6 hx hb
    obtain ⟨us,q1,q2,q3⟩ := Zkp hR hx hc
    refine ⟨us,b,q1,rfl,by simp [Builtin.lenOf],?_,fun q => List.eq_nil_of_length_eq_zero (by rw [q2,q]; simp)⟩
    have := Zb5 (P := P) (size := sz) (m := Nat.min b a) (c := cp) q3 q2
    cases q <;> exact this
   ·cases hs
  ·cases hs
theorem Zs3 {sz o off n c : Nat} {d : SV} {a : Option Addr} (hd : Rep ρ d (.slice a n c)) (h : dstAt sz d = some (o,off)) : ∃ L,ρ o = some L ∧ a = some ⟨L.1,off,none⟩ := by
 unfold dstAt at h
 split at h
 ·cases h; obtain ⟨L,hL,_,hq⟩ := hd; cases hq; exact ⟨L,hL,rfl⟩
 ·replace h := Zar h; obtain ⟨h1,h⟩ := h
  have h1 := Zce h1; subst h1
  cases h; obtain ⟨L,hL,_,hq⟩ := hd; cases hq; exact ⟨L,hL,rfl⟩
 ·cases h
theorem evMain_ok (hΓ : Zd0 P Γ) {m m' : Mem} (hb : ρ.below m.n) (ht : m.n ≤ top) {W : World} {F : Nat → Prop} {rs : List Res} (hS : St W F (res Ω ρ m.h ++ rs) w) {b : Builtin} {ars : List SV} {vs : List Value} (hv : RepL ρ ars vs) {ts : Array TypeId} {ty : TypeId} {s : SV} (h : evMain Γ m b ars ts.toList = some (s,m')) :
  ∃ ρ' v w',ρ.ext m.n m'.n ρ' ∧ ρ'.below m'.n ∧ m'.n ≤ top ∧ Rep ρ' s v ∧ (∀ cs,(builtin b ts ty cs vs.toArray).run P w = .ok (.value v) w') ∧ St W F (res Ω ρ' m'.h ++ rs) w' := by
 have hR := St.heapRd hS
 unfold evMain at h
 split at h
 ·-- append
  rename_i s0 x st xt hts
  obtain ⟨sv,_,hs,⟨xv,_,hx,hnil,rfl⟩,rfl⟩ := hv
  cases hnil
  split at h
  ·rename_i el hd
   split at h
   ·rename_i ti hti
    split at h
    ·rename_i d hdx
     have hux := (Zcb hΓ hdx).und
     have fin : ∀ (xs : List SV) (news : List Value) (k : Nat),AppArg P el ti.size xt xv k news w → RepL ρ xs news → Zjh m ti el s0 xs k = some (s,m') →
       ∃ ρ' v w',ρ.ext m.n m'.n ρ' ∧ ρ'.below m'.n ∧ m'.n ≤ top ∧ Rep ρ' s v ∧ (∀ cs,(builtin .append ts ty cs #[sv,xv]).run P w = .ok (.value v) w') ∧ St W F (res Ω ρ' m'.h ++ rs) w' := by
      intro xs news k ha hxs h
      obtain ⟨ρ',v,w',q1,q2,q3,q4,q5,q6⟩ := appendS_ok (ty := ty) hΓ hb ht hS hd hti (St.fresh hS hb (Nat.le_refl _)) hs ha hxs h
      refine ⟨ρ',v,w',q1,q2,q3,q4,fun cs => ?_,q6⟩
      have : ts = #[st,xt] := by apply Array.ext'; simpa using hts
      subst this
      simp [builtin,q5]
     obtain ⟨z,hi,hz2,_,_⟩ := (hΓ el ti hti).inf
     split at h
     ·rename_i kk k0 k
      replace h := Zar h; obtain ⟨h1,h⟩ := h
      replace h := Zar h; obtain ⟨h2,h⟩ := h
      have h1 := Zcd h1; have h2 := Zcd h2
      cases hx
      exact fin _ _ k (.zs hux hi rfl h2 h1) (RepL.rep (Zfa _ _ hz2) k) h
     ·split at h
      ·rename_i k hk
       split at h
       ·rename_i xs hxs
        obtain ⟨a,c,rfl,_⟩ := Zd6 hx hk
        obtain ⟨us,q1,q2,q3⟩ := Zkp hR hx hxs
        exact fin _ _ k (.sl hux q3 q2) q1 h
       ·cases h
      ·cases h
     ·rename_i l
      replace h := Zar h; obtain ⟨h1,h⟩ := h
      have h1 := Zce h1
      obtain ⟨h256,rfl⟩ := hx
      rw [Zj4] at fin
      have hl : (l.map UInt8.ofNat).length = l.length := by simp
      have := AppArg.st (P := P) (el := el) (size := ti.size) (xt := xt) (l := l.map UInt8.ofNat) (w := w) hux h1
      rw [hl] at this
      rw [Zj4]
      refine fin _ _ l.length this ?_ h
      have key : ∀ l : List Nat,(∀ x ∈ l,x < 256) → RepL ρ (Zj3 l) (bv (l.map UInt8.ofNat)) := by
       intro l
       induction l with
       | nil => intro _; exact RepL.nil
       | cons q l ih =>
        intro hq
        refine RepL.cons ?_ (ih fun x hx => hq x (List.mem_cons_of_mem _ hx))
        have : q < 256 := hq q (List.mem_cons_self ..)
        show Value.int .u8 _ = Value.int .u8 _
        simp [Nat.mod_eq_of_lt this]
      exact key l h256
     ·cases h
    ·cases h
   ·cases h
  ·cases h
 ·-- copy
  rename_i d x st r hts
  obtain ⟨dv,_,hdv,⟨xv,_,hxv,hnil,rfl⟩,rfl⟩ := hv
  cases hnil
  have ht0 : ts[0]? = some st := by have := congrArg (·[0]?) hts; simpa using this
  split at h
  ·rename_i el hd
   split at h
   ·rename_i sz hsz
    split at h
    ·rename_i a ha
     split at h
     ·rename_i n xs hsrc
      obtain ⟨da,dc,rfl,_⟩ := Zd6 hdv ha
      have hU := (Zcb hΓ hd).und
      have hS' := Zjo hΓ hsz
      obtain ⟨us,b,q1,q2,q3,q4,q5⟩ := srcOf_ok (P := P) hR hxv hsrc
      subst q2
      rcases Zcc h with ⟨h0,h⟩ | ⟨h0,h⟩
      ·have h0 := Zce h0
       cases h
       have hus : us = [] := q5 h0
       subst hus
       rw [h0] at q4
       refine ⟨ρ,_,w,Rho.ext.rfl,hb,ht,rfl,fun cs => ?_,hS⟩
       cases da <;> simp [builtin,Builtin.copy_,ht0,run_underlying hU,q3,Zb3 (n := sz),q4,goInt,h0,storeCells]
      ·split at h
       ·rename_i on off hdst
        split at h
        ·rename_i h' hst
         cases h
         obtain ⟨L,hL,rfl⟩ := Zs3 hdv hdst
         obtain ⟨_,_,w',g1,g2⟩ := Zgt (P := P) hS (Zen hb ht hL) q1 hL hst
         refine ⟨ρ,_,w',Rho.ext.rfl,hb,ht,rfl,fun cs => ?_,g2⟩
         simp [builtin,Builtin.copy_,ht0,run_underlying hU,q3,Zb3 (n := sz),q4,goInt,g1]
        ·cases h
       ·cases h
     ·cases h
    ·cases h
   ·cases h
  ·cases h
 ·-- clear
  rename_i d st r hts
  obtain ⟨dv,_,hdv,hnil,rfl⟩ := hv
  cases hnil
  have ht0 : ts[0]? = some st := by have := congrArg (·[0]?) hts; simpa using this
  split at h
  ·rename_i el hd
   split at h
   ·rename_i ti hti
    split at h
    ·rename_i n hn
     obtain ⟨da,dc,rfl,_⟩ := Zd6 hdv hn
     have hU := (Zcb hΓ hd).und
     rcases Zcc h with ⟨h0,h⟩ | ⟨h0,h⟩
     ·have h0 := Zce h0; subst h0
      cases h
      refine ⟨ρ,_,w,Rho.ext.rfl,hb,ht,⟨[],rfl,rfl⟩,fun cs => ?_,hS⟩
      cases da <;> simp [builtin,Builtin.clear_,ht0,run_underlying hU]
     ·split at h
      ·rename_i on off hdst
       split at h
       ·rename_i h' hst
        cases h
        obtain ⟨L,hL,rfl⟩ := Zs3 hdv hdst
        obtain ⟨z,hi,hz2,_,_⟩ := (hΓ el ti hti).inf
        obtain ⟨i,hi',hz',_,_⟩ := info_parts hi.inf
        obtain ⟨_,_,w',g1,g2⟩ := Zgt (P := P) hS (Zen hb ht hL) (RepL.rep (Zfa _ _ hz2) n) hL hst
        refine ⟨ρ,_,w',Rho.ext.rfl,hb,ht,⟨[],rfl,rfl⟩,fun cs => ?_,g2⟩
        have hzv : (zeroValue el).run P w = .ok z w := by simp [zeroValue,typeInfo,hi',hz']
        obtain ⟨m0,rfl⟩ : ∃ m0,n = m0 + 1 := ⟨n - 1,by have : n ≠ 0 := (fun q => by subst q; cases h0); omega⟩
        simp [builtin,Builtin.clear_,ht0,run_underlying hU,hzv,Zf7,g1]
       ·cases h
      ·cases h
    ·cases h
   ·cases h
  ·cases h
 ·-- delete
  rename_i n k t r hts
  obtain ⟨_,_,⟨L,hL,rfl⟩,⟨kv,_,hkv,hnil,rfl⟩,rfl⟩ := hv
  cases hnil
  split at h
  ·rename_i kt et hd
   split at h
   ·rename_i d hdk
    split at h
    ·rename_i es cl hg
     split at h
     ·rename_i q hq
      cases h
      have i1 := (Zcb hΓ hd).und
      have i2 := (Zcb hΓ hdk).und
      unfold findKey at hq
      replace hq := Zar hq; obtain ⟨hko,hq⟩ := hq
      obtain ⟨l,g1,g2,g3⟩ := St.mapAt (Zen hb ht hL) hg hS hL
      have hgo : (getObj L.1).run P w = .ok (.map l.toArray cl) w := by simp [getObj,Sem.run,g2]
      have hset : ∀ o',(setObj L.1 o').run P w = .ok () { w with heap := w.heap.setIfInBounds L.1 o' } := fun o' => run_setObj_map o' g2
      have hck : ∀ b,(Instr.checkKey b 10000 kt kv).run P w = .ok () w := fun b => run_checkKey (n := 9999) i2 (Zod hkv hko) _
      have ht0 : ts[0]? = some t := by have := congrArg (·[0]?) hts; simpa using this
      rcases delK_ok hkv es l 0 q g1 hq with ⟨q1,q2⟩ | ⟨j,u,q1,q2,q3⟩
      ·have hf := run_findKey (P := P) (w := w) i2 q1
       refine ⟨ρ,_,_,Rho.ext.rfl,hb,ht,⟨[],rfl,rfl⟩,fun cs => ?_,by rw [q2]; exact g3 _ _ cl g1⟩
       simp [builtin,Builtin.delete_,ht0,run_underlying i1,hgo,hck,hf,hset,Result.andThen]
      ·have hf := run_findKey (P := P) (w := w) i2 q1
       simp only [Nat.zero_add] at hf
       refine ⟨ρ,_,_,Rho.ext.rfl,hb,ht,⟨[],rfl,rfl⟩,fun cs => ?_,g3 _ _ cl q3⟩
       have e1 : l.toArray.eraseIdxIfInBounds j = (l.eraseIdx j).toArray := by unfold Array.eraseIdxIfInBounds; rw [dif_pos (by simpa using q2)]; simp
       simp [builtin,Builtin.delete_,ht0,run_underlying i1,hgo,hck,hf,hset,Result.andThen]
     ·cases h
    ·cases h
   ·cases h
  ·cases h
 ·cases h
theorem mainOp_ok (hΓ : Zd0 P Γ) (he : EnvR ρ e σ) {m m' : Mem} (hb : ρ.below m.n) (ht : m.n ≤ top) {W : World} {F : Nat → Prop} {rs : List Res} (hS : St W F (res Ω ρ m.h ++ rs) w) {s : SV} (h : Zfy Γ e m o.op = some (s,m')) : Does P Ω ρ o σ w W F rs m.n s m' := by
 generalize hop : o.op = op at h
 cases op
 case store => exact Ztm hΓ he hb ht hS hop h
 case convert => exact convOp_ok hΓ he hb ht hS hop h
 case mapUpdate => exact Zsi hΓ he hb ht hS (.inl hop) h
 case insert => exact Zsi hΓ he hb ht hS (.inr hop) h
 case call c =>
  obtain ⟨callee,args,ts⟩ := c
  cases callee
  case builtin b =>
   simp only [Zfy] at h
   split at h
   ·rename_i ars has
    obtain ⟨vs,hvs,hev⟩ := Zij he has
    obtain ⟨ρ',v,w',q1,q2,q3,q4,q5,q6⟩ := evMain_ok (ty := o.type) hΓ hb ht hS hvs h
    refine ⟨ρ',v,w',q1,q2,q3,q4,fun N ds a ha => .inl ?_,q6⟩
    obtain ⟨cs,hc⟩ := Zdx hop hev ha
    rw [hc,q5 cs]
   ·cases h
  all_goals (simp only [Zfy] at h; cases h)
 all_goals (simp only [Zfy] at h; cases h)
end
end Cr.Cl
namespace Cr.Cl
noncomputable section
open Go Go.MapKept
set_option maxRecDepth 4000

inductive Ex where
 | n
 | r
 | x (id : Nat)
def Ex.exit : Ex → Exit
 | .n => .normal
 | .r => .ret
 | .x id => .exit id
inductive Job where
 | code (c : Code) (e : Envs) (m : Mem)
 | loop (c : Code) (e : Envs) (m : Mem)
 | call (f : Nat) (args : List SV) (m : Mem)
inductive Rs where
 | out (x : Ex) (e : Envs) (m : Mem)
 | ret (v : SV) (m : Mem)
def putE (d : Option Tmp) (v : SV) (e : Envs) : Envs := match d with | some d => e.set d v | none => e
def Zfv : SV := .tup []
def Zhx (e : Envs) (all : List Oper) (g : Option (Nat × Bool)) : Option Bool :=
 match g with
 | none => some true
 | some (j,b) => match all[j]? with
  | some o => match o.dst with
   | some d => match e.get d with
    | some (.b c) => some (c == b)
    | some (.tup []) => some false
    | _ => none
   | none => none
  | none => none
def Zkq (e : Envs) (c : Call) : Option (Nat × List SV) :=
 match c.callee with
 | .value f => match opnd e f with
  | some (.fn (.func g) first cap) => match Zkf e c.args.toList with
   | some vs => some (g,first ++ vs ++ cap)
   | none => none
  | _ => none
 | _ => none
section
variable (Γ : Ctx) (rec : Job → Option Rs)
def Zkh (e : Envs) (m : Mem) (op : Op) : Option (SV × Mem) :=
 match Zfy Γ e m op with
 | some r => some r
 | none => match op with
  | .call c => match Zkq e c with
   | some (f,args) => match Γ.ext.get f with
    | some xf => xf args m
    | none => match rec (.call f args m) with
     | some (.ret v m) => some (v,m)
     | _ => none
   | none => none
  | _ => none
def Zmn (e : Envs) (m : Mem) (o : Oper) : Option (Envs × Mem) :=
 match Zd5 Γ e o.op with
 | some v => some (putE o.dst v e,m)
 | none => match Zfx Γ e m.h o.op with
  | some v => some (putE o.dst v e,m)
  | none => match Zgk Γ e o.op with
   | some (ob,mk) => match o.dst with
    | some d => bif Nat.blt m.n top then some (e.set d (mk.at m.n),⟨m.h.set m.n ob,m.n + 1⟩) else none
    | none => none
   | none => match Zkh Γ rec e m o.op with
    | some (v,m) => some (putE o.dst v e,m)
    | none => none
def Zjq (all : List Oper) : List Oper → Envs → Mem → Option (Envs × Mem)
 | [],e,m => some (e,m)
 | o :: r,e,m => match Zhx e all o.guard with
  | some true => match Zmn Γ rec e m o with
   | some (e,m) => Zjq all r e m
   | none => none
  | some false => Zjq all r (putE o.dst Zfv e) m
  | none => none
end
def Zfk (N : Nat) (o : Oper) : Bool :=
 (match o.dst with | some d => Nat.blt d N | none => (match o.guard with | some _ => false | none => true)) && nodef o.op

section
variable {P : Program} {Γ : Ctx} {Ω : Opq} {N : Nat} {W : World} {F : Nat → Prop} {rs : List Res} {Gd : World → (Nat → Prop) → Prop}
structure StS (Ω : Opq) (W : World) (F : Nat → Prop) (rs : List Res) (n0 : Nat) (ρ0 : Rho) (e : Envs) (m : Mem) (σ : Env) (w : World) (ρ : Rho) : Prop where
 ext : ρ0.ext n0 m.n ρ
 env : EnvR ρ e σ
 below : ρ.below m.n
 top : m.n ≤ top
 st : St W F (res Ω ρ m.h ++ rs) w
def StE (Ω : Opq) (W : World) (F : Nat → Prop) (rs : List Res) (n0 : Nat) (ρ0 : Rho) (e : Envs) (m : Mem) (σ : Env) (w : World) : Prop := ∃ ρ,StS Ω W F rs n0 ρ0 e m σ w ρ
theorem X_mono {o : Oper} {ds : Md} {σ : Env} {w : World} {K K' : Env → World → Prop} (h : X P o N ds σ w K) (hk : ∀ σ w,K σ w → K' σ w) : X P o N ds σ w K' :=
 ⟨fun a ha K1 Q hK => h.run a ha K1 Q fun σ' w' a' ha' hk' => hK σ' w' a' ha' (hk _ _ hk')⟩
def Zfj (P : Program) (Ω : Opq) (Gd : World → (Nat → Prop) → Prop) (f : Nat) (args : List SV) (m : Mem) (v : SV) (m' : Mem) : Prop :=
 Fun P f ∧ ∀ (W : World) (F : Nat → Prop),Gd W F → ∀ (rs : List Res) (ρ : Rho) (vs : List Value) (w : World),RepL ρ args vs → ρ.below m.n → m.n ≤ top → St W F (res Ω ρ m.h ++ rs) w →
  Calls P f vs.toArray w (Ret fun u w' => ∃ ρ',ρ.ext m.n m'.n ρ' ∧ ρ'.below m'.n ∧ m'.n ≤ top ∧ Rep ρ' v u ∧ St W F (res Ω ρ' m'.h ++ rs) w')
def ExtS (P : Program) (Ω : Opq) (f : Nat) (args : List SV) (m : Mem) (v : SV) (m' : Mem) : Prop :=
 ∀ (W : World) (F : Nat → Prop) (rs : List Res) (ρ : Rho) (vs : List Value) (w : World),RepL ρ args vs → ρ.below m.n → m.n ≤ top → St W F (res Ω ρ m.h ++ rs) w →
  ∃ ρ' u w',ρ.ext m.n m'.n ρ' ∧ ρ'.below m'.n ∧ m'.n ≤ top ∧ Rep ρ' v u ∧ (callFunc f vs.toArray).run P w = .ok (.value u) w' ∧ St W F (res Ω ρ' m'.h ++ rs) w'
def Zhv (P : Program) (Ω : Opq) (Γ : Ctx) : Prop := ∀ g xf,Γ.ext.get g = some xf → ∀ args m v m',xf args m = some (v,m') → ExtS P Ω g args m v m'
theorem EnvR.put {ρ : Rho} {e : Envs} {σ : Env} (h : EnvR ρ e σ) {d : Option Tmp} (hN : Zrk N d) (hNt : N ≤ top) {s : SV} {v : Value} (hv : Rep ρ s v) : EnvR ρ (putE d s e) (putV d v σ) := by
 cases d with
 | none => exact h
 | some d => exact h.set (by have := Zbp (hN d rfl); omega) hv
theorem X_callD {o : Oper} {ds : Md} {σ : Env} {w : World} {K : Env → World → Prop} {f : Operand} {xs : List Operand} {vs first captured : List Value} {ts : Array TypeId} {g : FuncId} {R : Value → World → Prop} (ho : o.op = .call { callee := .value f,args := xs.toArray,argTypes := ts }) (hf : ev σ f = some (.func (.func g) first.toArray captured.toArray)) (hv : evs σ xs = some vs) [hg : Fun P g]
  (hN : Zrk N o.dst) (hc : Calls P g (first ++ vs ++ captured).toArray w (Ret R)) (h : ∀ v w',R v w' → K (putV o.dst v σ) w') : X P o N ds σ w K := ⟨fun a ha K' Q' hK => by
 unfold Oper.wp
 have hexec : (execOp a.eval o).run P w = .ok (.enter g (first ++ vs ++ captured).toArray) w := by
  simp [execOp,ho,resolve,ha.eval hf,Deferred.ofValue,invoke,hg.run,ha.evals hv]
 rw [hexec]
 refine hc.mono fun e w' ⟨v,he,hR⟩ => ?_
 subst he
 exact hK _ _ _ (Fr.putV ha hN v) (h v w' hR)⟩
theorem Zq0 {ρ : Rho} {e : Envs} {σ : Env} (he : EnvR ρ e σ) {c : Call} {g : Nat} {args : List SV} (h : Zkq e c = some (g,args)) :
  ∃ (f : Operand) (first vs captured : List Value),c.callee = .value f ∧ ev σ f = some (.func (.func g) first.toArray captured.toArray) ∧ evs σ c.args.toList = some vs ∧ RepL ρ args (first ++ vs ++ captured) := by
 unfold Zkq at h
 split at h
 ·rename_i f hf
  split at h
  ·rename_i g' first cap hfn
   split at h
   ·rename_i vs hvs
    cases h
    obtain ⟨u,⟨va,vc,h1,h2,rfl⟩,hx⟩ := Zbo he hfn
    obtain ⟨us,h3,h4⟩ := Zij he hvs
    exact ⟨f,va,us,vc,hf,hx,h4,RepL.append (RepL.append h1 h3) h2⟩
   ·cases h
  ·cases h
 ·cases h
theorem Zsr (hG : Gd W F) (hX : Zhv P Ω Γ) (hΓ : Zd0 P Γ) {rec : Job → Option Rs} (hrec : ∀ f args m v m',rec (.call f args m) = some (.ret v m') → Zfj P Ω Gd f args m v m') {o : Oper} {e : Envs} {m m' : Mem} {v : SV} (h : Zkh Γ rec e m o.op = some (v,m')) (hN : Zrk N o.dst) {ds : Md} {σ : Env} {w : World} {ρ : Rho}
  (he : EnvR ρ e σ) (hb : ρ.below m.n) (ht : m.n ≤ top) (hS : St W F (res Ω ρ m.h ++ rs) w) {K : Env → World → Prop}
  (hk : ∀ ρ' u w',ρ.ext m.n m'.n ρ' → ρ'.below m'.n → m'.n ≤ top → Rep ρ' v u → St W F (res Ω ρ' m'.h ++ rs) w' → K (putV o.dst u σ) w') : X P o N ds σ w K := by
 unfold Zkh at h
 split at h
 ·rename_i r hr
  cases h
  obtain ⟨ρ',u,w',q1,q2,q3,q4,q5,q6⟩ := mainOp_ok hΓ he hb ht hS hr
  exact Znp (fun a ha => q5 N ds a ha) hN (hk ρ' u w' q1 q2 q3 q4 q6)
 ·split at h
  ·rename_i c ho
   split at h
   ·rename_i f args hres
    obtain ⟨fo,first,vs,cap,q1,q2,q3,q4⟩ := Zq0 he hres
    obtain ⟨callee,cargs,cts⟩ := c
    simp only at q1 q3
    subst q1
    have ho' : o.op = .call { callee := .value fo,args := cargs.toList.toArray,argTypes := cts } := by rw [ho]
    split at h
    ·rename_i xf hxf
     obtain ⟨ρ',u,w',r1,r2,r3,r4,r5,r6⟩ := hX f xf hxf _ _ _ _ h W F rs ρ _ w q4 hb ht hS
     refine Znp (v := u) (w' := w') (fun a ha => .inl ?_) hN (hk ρ' u w' r1 r2 r3 r4 r6)
     have hm : cargs.map a.eval = vs.toArray := by rw [← ha.evals q3]; apply Array.ext'; simp
     have : execOp a.eval o = callFunc f (first ++ vs ++ cap).toArray := by
      simp [execOp,ho,resolve,ha.eval q2,Deferred.ofValue,invoke,hm]
     rw [this,r5]
    ·split at h
     ·rename_i v' m2 hcall
      cases h
      obtain ⟨hg,hC⟩ := hrec _ _ _ _ _ hcall
      have hC := hC W F hG rs ρ _ w q4 hb ht hS
      exact X_callD ho' q2 q3 (hg := hg) hN hC fun u w' ⟨ρ',r1,r2,r3,r4,r5⟩ => hk ρ' u w' r1 r2 r3 r4 r5
     ·cases h
   ·cases h
  ·cases h
theorem oneOp_ok (hG : Gd W F) (hX : Zhv P Ω Γ) (hΓ : Zd0 P Γ) {rec : Job → Option Rs} (hrec : ∀ f args m v m',rec (.call f args m) = some (.ret v m') → Zfj P Ω Gd f args m v m') (hNt : N ≤ top) {o : Oper} (hok : Zfk N o = true) {e e' : Envs} {m m' : Mem} (h : Zmn Γ rec e m o = some (e',m')) {ds : Md} {σ : Env} {w : World} {n0 : Nat} {ρ0 : Rho}
  (H : StE Ω W F rs n0 ρ0 e m σ w) : X P o N ds σ w (StE Ω W F rs n0 ρ0 e' m') := by
 obtain ⟨ρ,hle,he,hb,ht,hS⟩ := H
 have hN : Zrk N o.dst := fun k hk => by
  simp only [Zfk,hk,Bool.and_eq_true] at hok; exact hok.1
 unfold Zmn at h
 split at h
 ·rename_i v hv
  cases h
  obtain ⟨u,hu,hy⟩ := Zpj (w := w) hΓ he hv
  exact Znp (fun a ha => .inl (hy.run N ds a ha)) hN ⟨ρ,hle,he.put hN hNt hu,hb,ht,hS⟩
 ·split at h
  ·rename_i v hv
   cases h
   obtain ⟨u,hu,hy⟩ := Zpg hΓ he (St.heapRd hS) hv
   exact Znp (fun a ha => .inl (hy.run N ds a ha)) hN ⟨ρ,hle,he.put hN hNt hu,hb,ht,hS⟩
  ·split at h
   ·rename_i ob mk hal
    split at h
    ·rename_i d hd
     replace h := Zar h; obtain ⟨htop,h⟩ := h
     cases h
     have htop := Zcx htop
     refine Znm (Ω := Ω) hΓ he hal (hb m.n (Nat.le_refl _)) hd (hN d hd) hS fun L v w' hv hS' => ?_
     have hle' := Rho.add_le (L := L) (hb m.n (Nat.le_refl _))
     refine ⟨ρ.add m.n L,hle.trans (Rho.ext.add (hb m.n (Nat.le_refl _))),?_,hb.add _,by show m.n + 1 ≤ top; omega,St.new htop (St.fresh hS hb (Nat.le_refl _)) (St.mono' hle' hS')⟩
     have := Zbp (hN d hd)
     exact (he.mono hle').set (by omega) hv
    ·cases h
   ·split at h
    ·rename_i v m2 hh
     cases h
     exact Zsr hG hX hΓ hrec hh hN he hb ht hS fun ρ' u w' r1 r2 r3 r4 r5 => ⟨ρ',hle.trans r1,(he.mono r1.1).put hN hNt r4,r2,r3,r5⟩
    ·cases h
theorem Zpe (hG : Gd W F) (hX : Zhv P Ω Γ) (hΓ : Zd0 P Γ) {rec : Job → Option Rs} (hrec : ∀ f args m v m',rec (.call f args m) = some (.ret v m') → Zfj P Ω Gd f args m v m') (hNt : N ≤ top) {all : List Oper} {ds : Md} {Q : Exit → Act → World → Prop} {n0 : Nat} {ρ0 : Rho} : ∀ (l : List Oper) (e e' : Envs) (m m' : Mem) (σ : Env) (w : World),
  (∀ o ∈ l,Zfk N o = true) → Zjq Γ rec all l e m = some (e',m') → StE Ω W F rs n0 ρ0 e m σ w → (∀ σ w,StE Ω W F rs n0 ρ0 e' m' σ w → E Q .normal N ds σ w) → G P all.toArray Q l N ds σ w
 | [],e,e',m,m',σ,w,_,h,H,hE => by
  simp only [Zjq,Option.some.injEq,Prod.mk.injEq] at h
  obtain ⟨rfl,rfl⟩ := h
  exact Zah (hE σ w H)
 | o :: r,e,e',m,m',σ,w,hl,h,H,hE => by
  have hok := hl o (List.mem_cons_self ..)
  have hnd : nodef o.op = true := by simp only [Zfk,Bool.and_eq_true] at hok; exact hok.2
  have ih := fun e e1 m m1 σ w => Zpe hG hX hΓ hrec hNt (all := all) (ds := ds) (Q := Q) (n0 := n0) (ρ0 := ρ0) r e e1 m m1 σ w fun o ho => hl o (List.mem_cons_of_mem _ ho)
  simp only [Zjq] at h
  split at h
  ·rename_i hw
   split at h
   ·rename_i e1 m1 h1
    have hX := oneOp_ok hG hX hΓ hrec hNt hok h1 (ds := ds) H
    have hX2 := X_mono hX fun σ' w' H' => ih _ _ _ _ σ' w' h H' hE
    unfold Zhx at hw
    split at hw
    ·rename_i hg
     exact Zab hg hnd hX2
    ·rename_i j b hg
     split at hw
     ·rename_i oj hj
      split at hw
      ·rename_i d hd
       obtain ⟨ρ,_,he,_⟩ := H
       split at hw
       ·rename_i c hc
        obtain ⟨u,hu,hlk⟩ := he d _ hc
        cases hu
        have : c = b := by simpa using hw
        subst this
        exact Zcu hg (by simp [hj,hd]) hlk hnd hX2
       ·cases hw
       ·cases hw
      ·cases hw
     ·cases hw
   ·cases h
  ·rename_i hw
   have hHu : ∀ d,o.dst = some d → StE Ω W F rs n0 ρ0 (putE o.dst Zfv e) m ((d,undef) :: σ) w := fun d hd => by
    obtain ⟨ρ,hle,he,hb,ht,hS⟩ := H
    refine ⟨ρ,hle,?_,hb,ht,hS⟩
    rw [hd]
    have hN : Nat.blt d N = true := by simp only [Zfk,hd,Bool.and_eq_true] at hok; exact hok.1
    exact he.set (by have := Zbp hN; omega) ⟨[],rfl,rfl⟩
   unfold Zhx at hw
   split at hw
   ·cases hw
   ·rename_i j b hg
    cases hdo : o.dst with
    | none => simp [Zfk,hdo,hg] at hok
    | some t =>
    have hN : Nat.blt t N = true := by simp only [Zfk,hdo,Bool.and_eq_true] at hok; exact hok.1
    split at hw
    ·rename_i oj hj
     split at hw
     ·rename_i d hd
      have hrest := ih _ _ _ _ _ w h (hHu t hdo) hE
      obtain ⟨ρ,_,he,_⟩ := H
      split at hw
      ·rename_i c hc
       obtain ⟨u,hu,hlk⟩ := he d _ hc
       cases hu
       exact G_no hg (by simp [hj,hd]) hlk (by simpa using hw) hdo hN hrest
      ·rename_i hc
       obtain ⟨u,⟨us,hus,rfl⟩,hlk⟩ := he d _ hc
       cases hus
       exact G_no_undef hg (by simp [hj,hd]) hlk hdo hN hrest
      ·cases hw
     ·cases hw
    ·cases hw
  ·cases h
end
end
end Cr.Cl
namespace Cr.Cl
noncomputable section
open Go Go.MapKept
set_option maxRecDepth 4000

inductive Kd where
 | soft
 | alloc (ob : SO) (mk : Mk)
 | read
 | main
structure Ent where
 v : SV
 kd : Kd
structure DSt where
 ents : List Ent
 mems : List (Nat × Mem)
 mains : List Nat
 abs : Nat
 cur : Mem
def bit (m k : Nat) : Bool := Nat.testBit m k
def Zdu (ms : List Nat) : List Edge → Nat
 | [] => 0
 | e :: r => bif Region.binds .any e then Nat.lor (Nat.lor (2 ^ e.on) ((ms[e.on]?).getD 0)) (Zdu ms r) else Zdu ms r
def Zlk : List Oper → List Nat → List Nat
 | [],ms => ms
 | o :: r,ms => Zlk r (ms ++ [Zdu ms o.after.toList])
def Zbn (l : List Oper) : List Nat := Zlk l []
def mk (ms : List Nat) (i : Nat) : Nat := (ms[i]?).getD 0
def Zpw (t i : Nat) : List Oper → Nat → Option Nat
 | [],_ => none
 | o :: r,k => match o.dst with
  | some d => bif Nat.beq d t && !Nat.beq k i then some k else Zpw t i r (k + 1)
  | none => Zpw t i r (k + 1)
def Zcl : List Oper → Bool
 | [] => true
 | o :: r => (match o.dst with | none => true | some d => r.all (fun o' => match o'.dst with | some d' => !Nat.beq d d' | none => true)) && Zcl r
inductive Src where
 | op (k : Nat)
 | env
def Zo9 (l : List Oper) (ms : List Nat) (i t : Nat) : Option Src :=
 match Zpw t i l 0 with
 | none => some .env
 | some k => bif bit (mk ms i) k then some (.op k) else bif bit (mk ms k) i then some .env else none
def Zgp (l : List Oper) (ms : List Nat) (i : Nat) (e0 : Envs) (ents : List Ent) : List Nat → Option Envs
 | [] => some .nil
 | t :: r => match Zgp l ms i e0 ents r with
  | none => none
  | some e => bif Nat.blt t top then (match Zo9 l ms i t with
   | some (.op k) => match ents[k]? with | some x => some (e.set t x.v) | none => none
   | some .env => match e0.get t with | some v => some (e.set t v) | none => none
   | none => none) else none
def tmpOf : Operand → Option Nat
 | .tmp t => some t
 | _ => none
def Zex (op : Op) : List Nat := op.operands.toList.filterMap tmpOf
def Zes (l : List Oper) (ms : List Nat) (ents : List Ent) (i : Nat) : Option (Nat × Bool) → Option Bool
 | none => some true
 | some (j,b) => bif bit (mk ms i) j then (match l[j]? with
  | some o => match o.dst with
   | some _ => match ents[j]? with
    | some x => match x.v with
     | .b c => some (c == b)
     | .tup [] => some false
     | _ => none
    | none => none
   | none => none
  | none => none) else none
def Zcz (base : Nat) (p : Nat → Bool) : List Ent → Nat → List (Nat × SO)
 | [],_ => []
 | x :: r,k => match x.kd with
  | .alloc ob _ => (bif p k then [(base + k,ob)] else []) ++ Zcz base p r (k + 1)
  | _ => Zcz base p r (k + 1)
def addP (base : Nat) (p : Nat → Bool) : List Ent → Nat → Heap → Option Heap
 | [],_,h => some h
 | x :: r,k,h => match x.kd with
  | .alloc ob _ => bif p k then (bif Nat.blt (base + k) top then (match h.get (base + k) with | none => addP base p r (k + 1) (h.set (base + k) ob) | some _ => none) else none) else addP base p r (k + 1) h
  | _ => addP base p r (k + 1) h
def seen (m a : Nat) (k : Nat) : Bool := bit m k && !bit a k
def DSt.add (st : DSt) (x : Ent) : DSt := { st with ents := st.ents ++ [x] }
section
variable (Γ : Ctx) (rec : Job → Option Rs)
def Zgn (l : List Oper) (ms : List Nat) (base : Nat) (e0 : Envs) (i : Nat) (o : Oper) (st : DSt) : Option DSt :=
 bif Nat.blt (mk ms i) (2 ^ i) then
  match Zes l ms st.ents i o.guard with
  | none => none
  | some false => match o.dst with | some _ => some (st.add ⟨Zfv,.soft⟩) | none => none
  | some true => match Zgp l ms i e0 st.ents (Zex o.op) with
   | none => none
   | some e => match Zd5 Γ e o.op with
    | some v => some (st.add ⟨v,.soft⟩)
    | none => match Zgk Γ e o.op with
     | some (ob,mk) => match o.dst with | some _ => some (st.add ⟨mk.at (base + i),.alloc ob mk⟩) | none => none
     | none => match addP base (seen (mk ms i) st.abs) st.ents 0 st.cur.h with
      | none => none
      | some h => match Zfx Γ e h o.op with
       | some v => some (st.add ⟨v,.read⟩)
       | none => bif st.mains.all (bit (mk ms i)) then (match Zkh Γ rec e ⟨h,st.cur.n⟩ o.op with
        | some (v,m) => some { ents := st.ents ++ [⟨v,.main⟩],mems := st.mems ++ [(Nat.lor st.abs (mk ms i),m)],mains := st.mains ++ [i],abs := Nat.lor st.abs (mk ms i),cur := m }
        | none => none) else none
 else none
def Zei (l : List Oper) (ms : List Nat) (base : Nat) (e0 : Envs) : List Oper → Nat → DSt → Option DSt
 | [],_,st => some st
 | o :: r,i,st => match Zgn Γ rec l ms base e0 i o st with
  | some st => Zei l ms base e0 r (i + 1) st
  | none => none
end
mutual
def sveq : SV → SV → Bool
 | .b x,.b y => x == y
 | .i k n,.i k' n' => ikeq k k' && ieq n n'
 | .s a,.s b => leq a b
 | .p0,.p0 => true
 | .p o f,.p o' f' => Nat.beq o o' && Nat.beq f f'
 | .pg o f,.pg o' f' => Nat.beq o o' && Nat.beq f f'
 | .sl0,.sl0 => true
 | .sl o a b c,.sl o' a' b' c' => Nat.beq o o' && Nat.beq a a' && Nat.beq b b' && Nat.beq c c'
 | .slu o a b c,.slu o' a' b' c' => Nat.beq o o' && Nat.beq a a' && Nat.beq b b' && Nat.beq c c'
 | .sle,.sle => true
 | .m0,.m0 => true
 | .m o,.m o' => Nat.beq o o'
 | .f0,.f0 => true
 | .ifc t v,.ifc t' v' => Nat.beq t t' && sveq v v'
 | .ifc0,.ifc0 => true
 | .agg a,.agg b => Ztl a b
 | .tup a,.tup b => Ztl a b
 | _,_ => false
def Ztl : List SV → List SV → Bool
 | [],[] => true
 | a :: r,b :: s => sveq a b && Ztl r s
 | _,_ => false
end
def Zj1 (ms mains : List Nat) (i j : Nat) : Bool :=
 (mains.take j).all (fun x => !bit (mk ms x) i) && (mains.drop j).all (fun x => !bit (mk ms i) x)
def readAt (Γ : Ctx) (base : Nat) (ents : List Ent) (mask : Nat) (e : Envs) (op : Op) (v : SV) (q : Nat × Mem) : Bool :=
 match addP base (seen mask q.1) ents 0 q.2.h with
 | some h => match Zfx Γ e h op with
  | some v' => sveq v' v
  | none => false
 | none => false
def Zlc (Γ : Ctx) (ms : List Nat) (base : Nat) (st : DSt) (i : Nat) (e : Envs) (op : Op) (v : SV) : List (Nat × Mem) → Nat → Bool
 | [],_ => true
 | q :: r,j => (bif Zj1 ms st.mains i j then readAt Γ base st.ents (mk ms i) e op v q else true) && Zlc Γ ms base st i e op v r (j + 1)
def Zlb (Γ : Ctx) (l : List Oper) (ms : List Nat) (base : Nat) (e0 : Envs) (st : DSt) : List Oper → List Ent → Nat → Bool
 | o :: r,x :: xs,i => (match x.kd with
  | .read => match Zgp l ms i e0 st.ents (Zex o.op) with
   | some e => Zlc Γ ms base st i e o.op x.v st.mems 0
   | none => false
  | _ => true) && Zlb Γ l ms base e0 st r xs (i + 1)
 | _,_,_ => true
def Zdq : List Oper → List Ent → Envs → Envs
 | o :: r,x :: xs,e => Zdq r xs (putE o.dst x.v e)
 | _,_,e => e
def Ziu (Γ : Ctx) (rec : Job → Option Rs) (l : List Oper) (e0 : Envs) (m0 : Mem) : Option (Envs × Mem) :=
 bif Nat.ble (m0.n + l.length) top then
  match Zei Γ rec l (Zbn l) m0.n e0 l 0 ⟨[],[(0,⟨m0.h,m0.n + l.length⟩)],[],0,⟨m0.h,m0.n + l.length⟩⟩ with
  | some st => bif Zlb Γ l (Zbn l) m0.n e0 st l st.ents 0 then
    (match addP m0.n (fun k => !bit st.abs k) st.ents 0 st.cur.h with
    | some h => some (Zdq l st.ents e0,⟨h,st.cur.n⟩)
    | none => none) else none
  | none => none
 else none

mutual
theorem Zqs : ∀ (a b : SV),sveq a b = true → a = b
 | .b x,b,h => by cases b <;> simp [sveq] at h; subst h; rfl
 | .i k n,b,h => by
  cases b <;> simp [sveq,Zjy] at h
  obtain ⟨h1,rfl⟩ := h; rw [Zja h1]
 | .s l,b,h => by cases b <;> simp [sveq,Zsl] at h; subst h; rfl
 | .p0,b,h => by cases b <;> simp [sveq] at h; rfl
 | .p o f,b,h => by cases b <;> simp [sveq,nbeq] at h; obtain ⟨rfl,rfl⟩ := h; rfl
 | .pg o f,b,h => by cases b <;> simp [sveq,nbeq] at h; obtain ⟨rfl,rfl⟩ := h; rfl
 | .sl0,b,h => by cases b <;> simp [sveq] at h; rfl
 | .sl ..,b,h => by cases b <;> simp [sveq,nbeq] at h; obtain ⟨⟨⟨rfl,rfl⟩,rfl⟩,rfl⟩ := h; rfl
 | .slu ..,b,h => by cases b <;> simp [sveq,nbeq] at h; obtain ⟨⟨⟨rfl,rfl⟩,rfl⟩,rfl⟩ := h; rfl
 | .sle,b,h => by cases b <;> simp [sveq] at h; rfl
 | .m0,b,h => by cases b <;> simp [sveq] at h; rfl
 | .m o,b,h => by cases b <;> simp [sveq,nbeq] at h; subst h; rfl
 | .fn ..,b,h => by cases b <;> simp [sveq] at h
 | .f0,b,h => by cases b <;> simp [sveq] at h; rfl
 | .ifc t v,b,h => by
  cases b <;> simp [sveq,nbeq] at h
  obtain ⟨rfl,h⟩ := h; rw [Zqs v _ h]
 | .ifc0,b,h => by cases b <;> simp [sveq] at h; rfl
 | .agg l,b,h => by cases b <;> simp [sveq] at h; rw [Znz l _ h]
 | .tup l,b,h => by cases b <;> simp [sveq] at h; rw [Znz l _ h]
theorem Znz : ∀ (a b : List SV),Ztl a b = true → a = b
 | [],b,h => by cases b <;> simp [Ztl] at h; rfl
 | a :: r,b,h => by
  cases b <;> simp [Ztl] at h
  obtain ⟨h1,h2⟩ := h
  rw [Zqs a _ h1,Znz r _ h2]
end

/-! ### what waits for what -/
theorem Zju : ∀ (r : List Oper) (ms : List Nat),∃ t,Zlk r ms = ms ++ t ∧ t.length = r.length ∧ ∀ (i : Nat) (o : Oper),r[i]? = some o → t[i]? = some (Zdu (ms ++ t.take i) o.after.toList)
 | [],ms => ⟨[],by simp [Zlk],rfl,fun i o h => by simp at h⟩
 | o :: r,ms => by
  obtain ⟨t,h1,h2,h3⟩ := Zju r (ms ++ [Zdu ms o.after.toList])
  refine ⟨Zdu ms o.after.toList :: t,by simp [Zlk,h1],by simp [h2],fun i o' h => ?_⟩
  cases i with
  | zero => simp at h; subst h; simp
  | succ i =>
   have := h3 i o' (by simpa using h)
   simpa using this
theorem Zi6 (l : List Oper) : (Zbn l).length = l.length ∧ ∀ (i : Nat) (o : Oper),l[i]? = some o → (Zbn l)[i]? = some (Zdu ((Zbn l).take i) o.after.toList) := by
 obtain ⟨t,h1,h2,h3⟩ := Zju l []
 have : Zbn l = t := by simpa [Zbn] using h1
 rw [this]
 exact ⟨h2,fun i o h => by simpa using h3 i o h⟩
theorem Zgh (a b k : Nat) : bit (Nat.lor a b) k = (bit a k || bit b k) := Nat.testBit_or a b k
theorem Zol {ms : List Nat} : ∀ {es : List Edge} {k : Nat},bit (Zdu ms es) k = true → ∃ e ∈ es,Region.binds .any e = true ∧ (e.on = k ∨ bit ((ms[e.on]?).getD 0) k = true)
 | [],k,h => by simp [Zdu,bit] at h
 | e :: r,k,h => by
  simp only [Zdu] at h
  cases hb : Region.binds .any e with
  | false =>
   rw [hb,cond_false] at h
   obtain ⟨e',h1,h2⟩ := Zol h
   exact ⟨e',List.mem_cons_of_mem _ h1,h2⟩
  | true =>
   rw [hb,cond_true,Zgh,Zgh] at h
   simp only [Bool.or_eq_true] at h
   rcases h with (h | h) | h
   ·refine ⟨e,List.mem_cons_self ..,hb,.inl ?_⟩
    simp only [bit,Nat.testBit_two_pow,decide_eq_true_eq] at h; exact h
   ·exact ⟨e,List.mem_cons_self ..,hb,.inr h⟩
   ·obtain ⟨e',h1,h2⟩ := Zol h
    exact ⟨e',List.mem_cons_of_mem _ h1,h2⟩
theorem Zgg (k : Nat) : bit 0 k = false := by simp [bit]
theorem Zll {l : List Oper} {listed : Array Bool} (hc : Closed l.toArray listed) : ∀ (n i : Nat),i < n → ∀ o,l[i]? = some o → (∀ e ∈ o.after,Region.binds .any e = true → listed.getD e.on false = true) → ∀ k,bit (mk (Zbn l) i) k = true → listed.getD k false = true := by
 intro n
 induction n with
 | zero => intro i h; omega
 | succ n ih =>
  intro i hi o ho hall k hk
  have hm := (Zi6 l).2 i o ho
  rw [mk,hm,Option.getD_some] at hk
  obtain ⟨e,he,hb,h⟩ := Zol hk
  have hl := hall e (by simpa using he) hb
  rcases h with rfl | h
  ·exact hl
  ·rw [List.getElem?_take] at h
   split at h
   ·rename_i hlt
    have hlen : e.on < l.length := by
     rcases Nat.lt_or_ge e.on l.length with q | q
     ·exact q
     ·rw [List.getElem?_eq_none (by rw [(Zi6 l).1]; exact q),Option.getD_none,Zgg] at h; cases h
    have ho' : l[e.on]? = some l[e.on] := List.getElem?_eq_getElem hlen
    exact ih e.on (by omega) _ ho' (fun e' he' hb' => hc e.on _ (by simp [ho']) hl e' he' hb') k h
   ·rw [Option.getD_none,Zgg] at h; cases h
theorem Zoa {l : List Oper} {listed : Array Bool} (hc : Closed l.toArray listed) {i : Nat} (hr : i ∈ Region.ready .any l.toArray listed) {k : Nat} (hk : bit (mk (Zbn l) i) k = true) : listed.getD k false = true := by
 obtain ⟨_,o,ho,hall⟩ := mem_ready.1 hr
 exact Zll hc (i + 1) i (Nat.lt_succ_self _) o (by simpa using ho) hall k hk
theorem Zmo {l : List Oper} {listed : Array Bool} (hc : Closed l.toArray listed) {i : Nat} {o : Oper} (ho : l[i]? = some o) (hl : listed.getD i false = true) {k : Nat} (hk : bit (mk (Zbn l) i) k = true) : listed.getD k false = true :=
 Zll hc (i + 1) i (Nat.lt_succ_self _) o ho (fun e he hb => hc i o (by simpa using ho) hl e he hb) k hk

/-! ### who writes a slot -/
theorem Zjc {t i : Nat} : ∀ {l : List Oper} {n : Nat},Zpw t i l n = none → ∀ (k : Nat) (o : Oper),l[k]? = some o → n + k ≠ i → o.dst ≠ some t
 | [],n,h,k,o,ho,_ => by simp at ho
 | x :: r,n,h,k,o,ho,hk => by
  simp only [Zpw] at h
  cases k with
  | zero =>
   simp at ho; subst ho
   intro hd
   rw [hd] at h
   simp only [nbeq,decide_true,Bool.true_and] at h
   rw [show decide (n = i) = false from decide_eq_false (by simpa using hk)] at h
   simp at h
  | succ k =>
   refine Zjc (t := t) (i := i) (n := n + 1) ?_ k o (by simpa using ho) (by omega)
   split at h
   ·exact (none_of_cond h)
   ·exact h
where
 none_of_cond {α : Type} {b : Bool} {x : α} {y : Option α} (h : (bif b then some x else y) = none) : y = none := by
  cases b
  ·exact h
  ·cases h
theorem Zhh {t i : Nat} : ∀ {l : List Oper} {n k : Nat},Zpw t i l n = some k → ∃ o,l[k - n]? = some o ∧ n ≤ k ∧ o.dst = some t ∧ k ≠ i
 | [],n,k,h => by cases h
 | x :: r,n,k,h => by
  simp only [Zpw] at h
  have next : Zpw t i r (n + 1) = some k → ∃ o,(x :: r)[k - n]? = some o ∧ n ≤ k ∧ o.dst = some t ∧ k ≠ i := fun h => by
   obtain ⟨o,h1,h2,h3,h4⟩ := Zhh h
   refine ⟨o,?_,by omega,h3,h4⟩
   rw [show k - n = (k - (n + 1)) + 1 by omega]; simpa using h1
  split at h
  ·rename_i d hd
   rcases Zcc h with ⟨hb,h⟩ | ⟨_,h⟩
   ·cases h
    simp only [nbeq,Bool.and_eq_true,decide_eq_true_eq,Bool.not_eq_true',decide_eq_false_iff_not] at hb
    exact ⟨x,by simp,Nat.le_refl _,by rw [hd,hb.1],hb.2⟩
   ·exact next h
  ·exact next h
theorem Zff : ∀ {l : List Oper},Zcl l = true → ∀ (i j : Nat) (oi oj : Oper) (d : Nat),l[i]? = some oi → l[j]? = some oj → oi.dst = some d → oj.dst = some d → i = j
 | [],_,i,_,_,_,_,h,_,_,_ => by simp at h
 | x :: r,h,i,j,oi,oj,d,hi,hj,di,dj => by
  simp only [Zcl,Bool.and_eq_true] at h
  have key : ∀ (k : Nat) (o : Oper),r[k]? = some o → x.dst = some d → o.dst ≠ some d := fun k o ho hx hd => by
   have h1 := h.1
   rw [hx] at h1
   have := List.all_eq_true.1 h1 o (List.mem_of_getElem? ho)
   rw [hd] at this
   simp at this
  cases i with
  | zero => cases j with
   | zero => rfl
   | succ j => simp at hi hj; subst hi; exact absurd dj (key j oj hj di)
  | succ i => cases j with
   | zero => simp at hi hj; subst hj; exact absurd di (key i oi hi dj)
   | succ j => rw [Zff h.2 i j oi oj d (by simpa using hi) (by simpa using hj) di dj]
section
variable {Ω : Opq}
structure EnvD (l : List Oper) (ents : List Ent) (e0 : Envs) (S : Nat → Prop) (ρ : Rho) (σ : Env) : Prop where
 done : ∀ (k : Nat) (o : Oper) (x : Ent) (d : Nat),S k → l[k]? = some o → o.dst = some d → ents[k]? = some x → ∃ u,Rep ρ x.v u ∧ look σ d = some u
 old : ∀ (t : Nat) (s : SV),e0.get t = some s → (∀ (k : Nat) (o : Oper),S k → l[k]? = some o → o.dst ≠ some t) → ∃ u,Rep ρ s u ∧ look σ t = some u
theorem EnvD.mono {l : List Oper} {ents : List Ent} {e0 : Envs} {S : Nat → Prop} {ρ ρ' : Rho} {σ : Env} (h : EnvD l ents e0 S ρ σ) (hle : ρ.le ρ') : EnvD l ents e0 S ρ' σ :=
  ⟨fun k o x d h1 h2 h3 h4 => by obtain ⟨u,q1,q2⟩ := h.done k o x d h1 h2 h3 h4; exact ⟨u,Rep.mono hle _ _ q1,q2⟩,
   fun t s h1 h2 => by obtain ⟨u,q1,q2⟩ := h.old t s h1 h2; exact ⟨u,Rep.mono hle _ _ q1,q2⟩⟩
theorem EnvD.add {l : List Oper} {ents : List Ent} {e0 : Envs} {S S' : Nat → Prop} {ρ : Rho} {σ : Env} (h : EnvD l ents e0 S ρ σ) (hd : Zcl l = true) {i : Nat} {o : Oper} {x : Ent} (ho : l[i]? = some o) (hx : ents[i]? = some x) (hS : ∀ k,S' k ↔ S k ∨ k = i) {u : Value} (hu : Rep ρ x.v u) :
  EnvD l ents e0 S' ρ (putV o.dst u σ) := by
 refine ⟨fun k o' x' d h1 h2 h3 h4 => ?_,fun t s h1 h2 => ?_⟩
 ·by_cases hki : k = i
  ·subst hki
   rw [ho] at h2; cases h2
   rw [hx] at h4; cases h4
   exact ⟨u,hu,by rw [h3]; exact Zc9 _ _ _⟩
  ·have hk : S k := ((hS k).1 h1).resolve_right hki
   obtain ⟨u',q1,q2⟩ := h.done k o' x' d hk h2 h3 h4
   refine ⟨u',q1,?_⟩
   cases hod : o.dst with
   | none => exact q2
   | some d' =>
    have : d' ≠ d := fun e => by subst e; exact hki (Zff hd k i o' o d' h2 ho h3 hod)
    show look ((d',u) :: σ) d = _
    rw [Zdh _ _ this]; exact q2
 ·obtain ⟨u',q1,q2⟩ := h.old t s h1 fun k o' hk ho' => h2 k o' ((hS k).2 (.inl hk)) ho'
  refine ⟨u',q1,?_⟩
  cases hod : o.dst with
  | none => exact q2
  | some d' =>
   have : d' ≠ t := fun e => by subst e; exact h2 i o ((hS i).2 (.inr rfl)) ho hod
   show look ((d',u) :: σ) t = _
   rw [Zdh _ _ this]; exact q2
theorem Zim {l : List Oper} {ents ents' : List Ent} {e0 : Envs} {S : Nat → Prop} {ρ : Rho} {σ : Env} (H : EnvD l ents' e0 S ρ σ) (hpre : ∀ (k : Nat) (x : Ent),ents[k]? = some x → ents'[k]? = some x) (hd : Zcl l = true) {i : Nat} (hi : ¬ S i) (hmask : ∀ k,bit (mk (Zbn l) i) k = true → S k)
  (hcl : ∀ (k : Nat) (o : Oper),l[k]? = some o → S k → ∀ j,bit (mk (Zbn l) k) j = true → S j) : ∀ (ts : List Nat) (e : Envs),Zgp l (Zbn l) i e0 ents ts = some e → EnvR ρ e σ
 | [],e,h => by
  simp only [Zgp,Option.some.injEq] at h; subst h
  intro n s hs; rw [Envs.get_nil] at hs; cases hs
 | t :: r,e,h => by
  simp only [Zgp] at h
  split at h
  ·cases h
  ·rename_i e1 he1
   replace h := Zar h; obtain ⟨ht,h⟩ := h
   have ht := Zcx ht
   have ih := Zim H hpre hd hi hmask hcl r e1 he1
   have setR : ∀ (s : SV) (u : Value),Rep ρ s u → look σ t = some u → EnvR ρ (e1.set t s) σ := fun s u hu hl n s' hs => by
    rw [Envs.get_set s n ht] at hs
    split at hs
    ·rename_i en; subst en; cases hs; exact ⟨u,hu,hl⟩
    ·exact ih n s' hs
   split at h
   ·rename_i k hsrc
    split at h
    ·rename_i x hx
     cases h
     unfold Zo9 at hsrc
     split at hsrc
     ·cases hsrc
     ·rename_i k' hw
      rcases Zcc hsrc with ⟨hb,hsrc⟩ | ⟨_,hsrc⟩
      ·cases hsrc
       obtain ⟨o,q1,_,q2,_⟩ := Zhh hw
       obtain ⟨u,hu,hl⟩ := H.done k o x t (hmask k hb) (by simpa using q1) q2 (hpre k x hx)
       exact setR _ u hu hl
      ·replace hsrc := Zar hsrc; cases hsrc.2
    ·cases h
   ·rename_i hsrc
    split at h
    ·rename_i v hv
     cases h
     have hno : ∀ (k : Nat) (o : Oper),S k → l[k]? = some o → o.dst ≠ some t := by
      intro k o hk ho hdo
      have hki : k ≠ i := fun q => by subst q; exact hi hk
      unfold Zo9 at hsrc
      split at hsrc
      ·rename_i hw
       exact Zjc hw k o ho (by simpa using hki) hdo
      ·rename_i k' hw
       obtain ⟨o',q1,_,q2,_⟩ := Zhh hw
       have : k = k' := Zff hd k k' o o' t ho (by simpa using q1) hdo q2
       subst this
       rcases Zcc hsrc with ⟨_,hsrc⟩ | ⟨_,hsrc⟩
       ·cases hsrc
       ·replace hsrc := Zar hsrc; obtain ⟨hb,_⟩ := hsrc
        exact hi (hcl k o ho hk i hb)
     obtain ⟨u,hu,hl⟩ := H.old t v hv hno
     exact setR _ u hu hl
    ·cases h
   ·cases h

/-! ### the objects that operations made -/
theorem Zm6 (base : Nat) (p q : Nat → Bool) : ∀ (ents : List Ent) (k : Nat),(Zcz base p ents k).Perm (Zcz base (fun n => p n && q n) ents k ++ Zcz base (fun n => p n && !q n) ents k)
 | [],k => .refl _
 | x :: r,k => by
  simp only [Zcz]
  have ih := Zm6 base p q r (k + 1)
  cases x.kd with
  | alloc ob mk =>
   simp only
   cases hp : p k <;> cases hq : q k <;> simp only [Bool.false_and,Bool.true_and,Bool.not_false,Bool.not_true,cond_true,cond_false,List.nil_append]
   ·exact ih
   ·exact ih
   ·exact (List.Perm.cons _ ih).trans List.perm_middle.symm
   ·exact List.Perm.cons _ ih
  | _ => exact ih
theorem Ze8 (base : Nat) {p q : Nat → Bool} : ∀ (ents : List Ent) (k : Nat),(∀ (n : Nat) (x : Ent) ob mk,ents[n]? = some x → x.kd = .alloc ob mk → p (k + n) = q (k + n)) → Zcz base p ents k = Zcz base q ents k
 | [],k,_ => rfl
 | x :: r,k,h => by
  simp only [Zcz]
  have ih := Ze8 base (p := p) (q := q) r (k + 1) fun n y ob mk hy hk => by
   have := h (n + 1) y ob mk (by simpa using hy) hk
   rw [show k + 1 + n = k + (n + 1) by omega]; exact this
  cases hk : x.kd with
  | alloc ob mk =>
   have := h 0 x ob mk rfl hk
   simp only [Nat.add_zero] at this
   simp only [this,ih]
  | _ => exact ih
theorem Zjr (base : Nat) (p : Nat → Bool) : ∀ (a b : List Ent) (k : Nat),Zcz base p (a ++ b) k = Zcz base p a k ++ Zcz base p b (k + a.length)
 | [],b,k => by simp [Zcz]
 | x :: a,b,k => by
  simp only [List.cons_append,Zcz]
  have ih := Zjr base p a b (k + 1)
  rw [show k + 1 + a.length = k + (x :: a).length by simp; omega] at ih
  cases x.kd <;> simp [ih]
theorem Zi5 (base : Nat) {p : Nat → Bool} : ∀ (ents : List Ent) (k : Nat),(∀ n,p (k + n) = false) → Zcz base p ents k = []
 | [],k,_ => rfl
 | x :: r,k,h => by
  have ih := Zi5 base (p := p) r (k + 1) fun n => by rw [show k + 1 + n = k + (n + 1) by omega]; exact h (n + 1)
  have h0 := h 0
  simp only [Nat.add_zero] at h0
  simp only [Zcz,h0]
  cases x.kd <;> simp [ih]
theorem Zg7 {base : Nat} {p : Nat → Bool} : ∀ {ents : List Ent} {k : Nat} {h h' : Heap},addP base p ents k h = some h' → h'.toList.Perm (Zcz base p ents k ++ h.toList)
 | [],k,h,h',e => by
  have e2 : h = h' := Option.some.inj e
  subst e2
  exact List.Perm.of_eq (List.nil_append _).symm
 | x :: r,k,h,h',e => by
  simp only [addP] at e
  simp only [Zcz]
  split at e
  ·rename_i ob mk hk
   rcases Zcc e with ⟨hp,e⟩ | ⟨hp,e⟩
   ·replace e := Zar e; obtain ⟨ht,e⟩ := e
    split at e
    ·rename_i hg
     have ih := Zg7 e
     rw [hp,cond_true]
     refine ih.trans ((List.Perm.append_left _ (Heap.set_new ob (Zcx ht) hg)).trans ?_)
     exact List.perm_middle
    ·cases e
   ·rw [hp,cond_false,List.nil_append]
    exact Zg7 e
  ·exact Zg7 e
end
end
end Cr.Cl
namespace Cr.Cl
open Go Go.MapKept
set_option maxRecDepth 4000
structure DSt.le (a b : DSt) : Prop where
 ents : ∃ t,b.ents = a.ents ++ t
 mems : ∃ t,b.mems = a.mems ++ t
 mains : ∃ t,b.mains = a.mains ++ t
theorem DSt.le.rfl {a : DSt} : a.le a := ⟨⟨[],by simp⟩,⟨[],by simp⟩,⟨[],by simp⟩⟩
theorem DSt.le.trans {a b c : DSt} (h : a.le b) (h' : b.le c) : a.le c := by
 obtain ⟨⟨t1,e1⟩,⟨t2,e2⟩,⟨t3,e3⟩⟩ := h
 obtain ⟨⟨u1,f1⟩,⟨u2,f2⟩,⟨u3,f3⟩⟩ := h'
 exact ⟨⟨t1 ++ u1,by rw [f1,e1,List.append_assoc]⟩,⟨t2 ++ u2,by rw [f2,e2,List.append_assoc]⟩,⟨t3 ++ u3,by rw [f3,e3,List.append_assoc]⟩⟩
theorem Zdo {α : Type} {a b : List α} (h : ∃ t,b = a ++ t) {k : Nat} {x : α} (hk : a[k]? = some x) : b[k]? = some x := by
 obtain ⟨t,rfl⟩ := h
 rw [List.getElem?_append_left (List.getElem?_eq_some_iff.1 hk).1]; exact hk
structure Wf (ms : List Nat) (st : DSt) : Prop where
 len : st.mems.length = st.mains.length + 1
 cur : st.mems[st.mains.length]? = some (st.abs,st.cur)
 main : ∀ (k y : Nat),st.mains[k]? = some y → ∃ x,st.ents[y]? = some x ∧ x.kd = .main
 inc : ∀ (k k' y y' : Nat),k < k' → st.mains[k]? = some y → st.mains[k']? = some y' → y < y'
 abs : ∀ (j a : Nat) (m : Mem),st.mems[j]? = some (a,m) → ∀ k,bit a k = true → ∃ k' y,k' < j ∧ st.mains[k']? = some y ∧ bit (mk ms y) k = true
inductive FactD (Γ : Ctx) (rec : Job → Option Rs) (l : List Oper) (base : Nat) (e0 : Envs) (st : DSt) (i : Nat) (o : Oper) (x : Ent) : Prop where
 | skip (pre : List Ent) (hp : ∃ t,st.ents = pre ++ t) (hw : Zes l (Zbn l) pre i o.guard = some false) (hx : x = ⟨Zfv,.soft⟩)
 | soft (pre : List Ent) (hp : ∃ t,st.ents = pre ++ t) (hw : Zes l (Zbn l) pre i o.guard = some true) (e : Envs) (he : Zgp l (Zbn l) i e0 pre (Zex o.op) = some e) (hk : x.kd = .soft) (h : Zd5 Γ e o.op = some x.v)
 | alloc (pre : List Ent) (hp : ∃ t,st.ents = pre ++ t) (hw : Zes l (Zbn l) pre i o.guard = some true) (e : Envs) (he : Zgp l (Zbn l) i e0 pre (Zex o.op) = some e) (ob : SO) (mk : Mk) (hk : x.kd = .alloc ob mk) (h : Zgk Γ e o.op = some (ob,mk)) (hv : x.v = mk.at (base + i)) (hd : o.dst ≠ none)
 | read (pre : List Ent) (hp : ∃ t,st.ents = pre ++ t) (hw : Zes l (Zbn l) pre i o.guard = some true) (hk : x.kd = .read)
 | main (pre : List Ent) (hp : ∃ t,st.ents = pre ++ t) (hw : Zes l (Zbn l) pre i o.guard = some true) (e : Envs) (he : Zgp l (Zbn l) i e0 pre (Zex o.op) = some e) (hk : x.kd = .main) (k abs : Nat) (m m' : Mem) (h' : Heap) (hlen : pre.length = i)
   (h1 : st.mains[k]? = some i) (h2 : st.mems[k]? = some (abs,m)) (h3 : st.mems[k + 1]? = some (Nat.lor abs (mk (Zbn l) i),m')) (h4 : ∀ k' y,k' < k → st.mains[k']? = some y → bit (mk (Zbn l) i) y = true) (h5 : addP base (seen (mk (Zbn l) i) abs) pre 0 m.h = some h') (h6 : Zkh Γ rec e ⟨h',m.n⟩ o.op = some (x.v,m'))
section
variable {Γ : Ctx} {rec : Job → Option Rs} {l : List Oper} {base : Nat} {e0 : Envs}
theorem Wf.addE {ms : List Nat} {st : DSt} (h : Wf ms st) (x : Ent) : Wf ms (st.add x) :=
 ⟨h.len,h.cur,fun k y hk => by obtain ⟨z,h1,h2⟩ := h.main k y hk; exact ⟨z,Zdo ⟨[x],rfl⟩ h1,h2⟩,h.inc,h.abs⟩
theorem Zp4 {i : Nat} {o : Oper} {st st1 : DSt} (h : Zgn Γ rec l (Zbn l) base e0 i o st = some st1) (hl : st.ents.length = i) (hwf : Wf (Zbn l) st) :
  mk (Zbn l) i < 2 ^ i ∧ st.le st1 ∧ Wf (Zbn l) st1 ∧ st1.ents.length = i + 1 ∧ ∃ x,st1.ents[i]? = some x ∧ ∀ st',st1.le st' → FactD Γ rec l base e0 st' i o x := by
 unfold Zgn at h
 replace h := Zar h; obtain ⟨hm,h⟩ := h
 have hm := Zcx hm
 refine ⟨hm,?_⟩
 have soft : ∀ x : Ent,st1 = st.add x → (∀ st',st1.le st' → FactD Γ rec l base e0 st' i o x) → st.le st1 ∧ Wf (Zbn l) st1 ∧ st1.ents.length = i + 1 ∧ ∃ x,st1.ents[i]? = some x ∧ ∀ st',st1.le st' → FactD Γ rec l base e0 st' i o x := by
  rintro x rfl hf
  exact ⟨⟨⟨[x],rfl⟩,⟨[],by simp [DSt.add]⟩,⟨[],by simp [DSt.add]⟩⟩,hwf.addE x,by simp [DSt.add,hl],x,by simp [DSt.add,← hl],hf⟩
 have pre : ∀ {x : Ent} {st' : DSt},(st.add x).le st' → ∃ t,st'.ents = st.ents ++ t := fun {x st'} hle => by
  obtain ⟨t,ht⟩ := hle.ents
  exact ⟨[x] ++ t,by rw [ht]; simp [DSt.add]⟩
 split at h
 ·cases h
 ·rename_i hw
  split at h
  ·rename_i d hd
   cases h
   exact soft _ rfl fun st' hle => .skip st.ents (pre hle) hw rfl
  ·cases h
 ·rename_i hw
  split at h
  ·cases h
  ·rename_i e he
   split at h
   ·rename_i v hv
    cases h
    exact soft _ rfl fun st' hle => .soft st.ents (pre hle) hw e he rfl hv
   ·split at h
    ·rename_i ob mk' hal
     split at h
     ·rename_i d hd
      cases h
      exact soft _ rfl fun st' hle => .alloc st.ents (pre hle) hw e he ob mk' rfl hal rfl (by rw [hd]; simp)
     ·cases h
    ·split at h
     ·cases h
     ·rename_i h' hadd
      split at h
      ·rename_i v hv
       cases h
       exact soft _ rfl fun st' hle => .read st.ents (pre hle) hw rfl
      ·replace h := Zar h; obtain ⟨hall,h⟩ := h
       split at h
       ·rename_i v m' hh
        cases h
        refine ⟨⟨⟨_,rfl⟩,⟨_,rfl⟩,⟨_,rfl⟩⟩,⟨?_,?_,?_,?_,?_⟩,by simp [hl],⟨v,.main⟩,by simp [← hl],fun st' hle => ?_⟩
        ·simp [hwf.len]
        ·show (st.mems ++ [(Nat.lor st.abs (mk (Zbn l) i),m')])[(st.mains ++ [i]).length]? = _
         rw [List.length_append,List.length_singleton,← hwf.len]
         simp
        ·intro k y hk
         rcases Nat.lt_or_ge k st.mains.length with q | q
         ·rw [List.getElem?_append_left q] at hk
          obtain ⟨z,h1,h2⟩ := hwf.main k y hk
          exact ⟨z,Zdo ⟨_,rfl⟩ h1,h2⟩
         ·have hk' : (st.mains ++ [i])[k]? = some y := hk
          rw [List.getElem?_append_right q] at hk'
          have hk0 : k - st.mains.length = 0 := by
           rcases Nat.eq_zero_or_pos (k - st.mains.length) with q | q
           ·exact q
           ·rw [List.getElem?_eq_none (by simp; omega)] at hk'; cases hk'
          rw [hk0] at hk'
          simp at hk'
          subst hk'
          exact ⟨⟨v,.main⟩,by simp [← hl],rfl⟩
        ·intro k k' y y' hkk hy hy'
         have hlk : ∀ (k y : Nat),st.mains[k]? = some y → y < i := fun k y hk => by
          obtain ⟨z,h1,_⟩ := hwf.main k y hk
          have := (List.getElem?_eq_some_iff.1 h1).1
          omega
         have hy0 : (st.mains ++ [i])[k]? = some y := hy
         have hy1 : (st.mains ++ [i])[k']? = some y' := hy'
         have hk' : k' < (st.mains ++ [i]).length := (List.getElem?_eq_some_iff.1 hy1).1
         simp only [List.length_append,List.length_singleton] at hk'
         rw [List.getElem?_append_left (by omega)] at hy0
         rcases Nat.lt_or_ge k' st.mains.length with q | q
         ·rw [List.getElem?_append_left q] at hy1
          exact hwf.inc k k' y y' hkk hy0 hy1
         ·rw [List.getElem?_append_right q,show k' - st.mains.length = 0 by omega] at hy1
          simp at hy1; subst hy1
          exact hlk k y hy0
        ·intro j a m hj k hk
         have hj' : (st.mems ++ [(Nat.lor st.abs (mk (Zbn l) i),m')])[j]? = some (a,m) := hj
         rcases Nat.lt_or_ge j st.mems.length with q | q
         ·rw [List.getElem?_append_left q] at hj'
          obtain ⟨k',y,h1,h2,h3⟩ := hwf.abs j a m hj' k hk
          exact ⟨k',y,h1,Zdo ⟨_,rfl⟩ h2,h3⟩
         ·rw [List.getElem?_append_right q] at hj'
          have hk0 : j - st.mems.length = 0 := by
           rcases Nat.eq_zero_or_pos (j - st.mems.length) with q | q
           ·exact q
           ·rw [List.getElem?_eq_none (by simp; omega)] at hj'; cases hj'
          rw [hk0] at hj'
          simp at hj'
          obtain ⟨rfl,rfl⟩ := hj'
          have hjl : j = st.mems.length := by omega
          have hk : bit (Nat.lor st.abs (mk (Zbn l) i)) k = true := hk
          rw [Zgh,Bool.or_eq_true] at hk
          rcases hk with hk | hk
          ·obtain ⟨k',y,h1,h2,h3⟩ := hwf.abs st.mains.length st.abs st.cur hwf.cur k hk
           exact ⟨k',y,by have := hwf.len; omega,Zdo ⟨_,rfl⟩ h2,h3⟩
          ·exact ⟨st.mains.length,i,by have := hwf.len; omega,by simp,hk⟩
        ·refine .main st.ents ?_ hw e he rfl st.mains.length st.abs st.cur m' h' hl ?_ ?_ ?_ ?_ hadd hh
         ·obtain ⟨t,ht⟩ := hle.ents
          exact ⟨[⟨v,.main⟩] ++ t,by rw [ht]; simp⟩
         ·exact Zdo hle.mains (by simp)
         ·refine Zdo hle.mems ?_
          show (st.mems ++ [(Nat.lor st.abs (mk (Zbn l) i),m')])[st.mains.length]? = _
          exact Zdo ⟨_,rfl⟩ hwf.cur
         ·refine Zdo hle.mems ?_
          show (st.mems ++ [(Nat.lor st.abs (mk (Zbn l) i),m')])[st.mains.length + 1]? = _
          rw [← hwf.len]; simp
         ·intro k' y hk' hy
          obtain ⟨t,ht⟩ := hle.mains
          have ht' : st'.mains = st.mains ++ ([i] ++ t) := by rw [ht]; simp
          rw [ht',List.getElem?_append_left hk'] at hy
          exact List.all_eq_true.1 hall y (List.mem_of_getElem? hy)
       ·cases h
theorem Zl0 : ∀ (r : List Oper) (i : Nat) (st st' : DSt),Zei Γ rec l (Zbn l) base e0 r i st = some st' → st.ents.length = i → Wf (Zbn l) st →
  st.le st' ∧ Wf (Zbn l) st' ∧ st'.ents.length = i + r.length ∧ ∀ (k : Nat) (o : Oper),r[k]? = some o → mk (Zbn l) (i + k) < 2 ^ (i + k) ∧ ∃ x,st'.ents[i + k]? = some x ∧ FactD Γ rec l base e0 st' (i + k) o x
 | [],i,st,st',h,hl,hwf => by
  simp only [Zei,Option.some.injEq] at h; subst h
  exact ⟨.rfl,hwf,by simp [hl],fun k o hk => by simp at hk⟩
 | o :: r,i,st,st',h,hl,hwf => by
  simp only [Zei] at h
  split at h
  ·rename_i st1 h1
   obtain ⟨q0,q1,q2,q3,x,q4,q5⟩ := Zp4 h1 hl hwf
   obtain ⟨r1,r2,r3,r4⟩ := Zl0 r (i + 1) st1 st' h q3 q2
   refine ⟨q1.trans r1,r2,by rw [r3]; simp; omega,fun k o' hk => ?_⟩
   cases k with
   | zero => simp at hk; subst hk; exact ⟨q0,x,Zdo r1.ents q4,q5 st' r1⟩
   | succ k =>
    have := r4 k o' (by simpa using hk)
    rw [show i + 1 + k = i + (k + 1) by omega] at this
    exact this
  ·cases h
end
end Cr.Cl
