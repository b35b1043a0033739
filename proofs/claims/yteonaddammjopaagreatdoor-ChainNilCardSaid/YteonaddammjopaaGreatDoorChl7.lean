/-
  Closed runs,10: all operations that change memory ('mainOp_ok'). Over any program.
  Closed runs,11: one operation after the other; calls. Over any program.
  Closed runs,12: a statement whose order of evaluation Go leaves open: one evaluation serves every order. Operations that touch no memory,those that make an object of their own,and reads of what stays may be carried out whenever; what changes memory stands in one order. Over any program.
  Closed runs,13: what the evaluation of a statement that draws its order found,told of its end ('drawLoop_ok'). Over any program.
  Closed runs,14: one evaluation serves every order ('draw_ok'). Over any program.
-/
import Derived.Test.YteonaddammjopaaGreatDoorChl6
namespace Cr.Cl
open Go Go.MapKept
set_option maxRecDepth 4000
section
variable {P : Program} {Γ : Ctx} {Ω : Opq} {ρ : Rho} {o : Oper} {σ : Env} {w : World} {e : Envs}
theorem keq_eq {d : TypeDesc} {k a : SV} {kv av : Value} (hk : Rep ρ k kv) (ha : Rep ρ a av) (h : keq d k a = some true) : av = kv := by
 unfold keq at h
 split at h
 ·replace h := Zas h; obtain ⟨h1,h⟩ := h
  have := ikeq_ok h1; subst this
  simp only [Option.some.injEq,ieq_ok,decide_eq_true_eq] at h
  subst h; cases hk; cases ha; rfl
 ·simp only [Option.some.injEq,leq_ok,decide_eq_true_eq] at h
  subst h; obtain ⟨_,rfl⟩ := hk; obtain ⟨_,rfl⟩ := ha; rfl
 ·simp only [Option.some.injEq,beq_iff_eq] at h
  subst h; cases hk; cases ha; rfl
 ·cases h
theorem sameBits_key {d : TypeDesc} {k : SV} {kv : Value} (hk : Rep ρ k kv) (h : keyOk d k = true) (n : Nat) : Instr.sameBits n kv kv = true := by
 unfold keyOk at h
 split at h
 ·cases hk; cases n <;> simp [Instr.sameBits]
 ·obtain ⟨_,rfl⟩ := hk; cases n <;> simp [Instr.sameBits,Go.beq_toListBytes]
 ·cases hk; cases n <;> simp [Instr.sameBits]
 ·cases h
theorem setK_ok {d : TypeDesc} {k v : SV} {kv vv : Value} (hk : Rep ρ k kv) (hv : Rep ρ v vv) : ∀ (es : List (SV × SV × Nat)) (l : List MapEntry) (i : Nat) (r : SV),RepE ρ es l → findK d k es = some (some r) →
  ∃ j u,Instr.findNow d kv l i = some (some (i + j,u)) ∧ (l[j]?).map (·.key) = some kv ∧ RepE ρ (setK d k v es) (l.modify j fun e => { e with key := kv,val := vv })
 | [],l,i,r,he,h => by cases h
 | (a,u,n) :: es,l,i,r,⟨e,l',h1,h2,h3,h4,hl⟩,h => by
  subst hl
  simp only [findK] at h
  split at h
  ·rename_i hq
   have := keq_ok hk h1 hq
   refine ⟨0,e.val,by simp [Instr.findNow,this],by simp [keq_eq hk h1 hq],?_⟩
   simp only [setK,hq,List.modify_zero_cons]
   exact ⟨{ e with key := kv,val := vv },l',hk,hv,h3,h4,rfl⟩
  ·rename_i hq
   have := keq_ok hk h1 hq
   obtain ⟨j,u',g1,g2,g3⟩ := setK_ok hk hv es l' (i + 1) r h4 h
   refine ⟨j + 1,u',?_,by simpa using g2,?_⟩
   ·simp only [Instr.findNow,this,g1]
    rw [show i + 1 + j = i + (j + 1) by omega]
   ·simp only [setK,hq,List.modify_succ_cons]
    exact ⟨e,_,h1,h2,h3,g3,rfl⟩
  ·cases h
theorem delK_ok {d : TypeDesc} {k : SV} {kv : Value} (hk : Rep ρ k kv) : ∀ (es : List (SV × SV × Nat)) (l : List MapEntry) (i : Nat) (r : Option SV),RepE ρ es l → findK d k es = some r →
  (Instr.findNow d kv l i = some none ∧ delK d k es = es) ∨ ∃ j u,Instr.findNow d kv l i = some (some (i + j,u)) ∧ j < l.length ∧ RepE ρ (delK d k es) (l.eraseIdx j)
 | [],l,i,r,he,h => by cases he; exact .inl ⟨rfl,rfl⟩
 | (a,u,n) :: es,l,i,r,⟨e,l',h1,h2,h3,h4,hl⟩,h => by
  subst hl
  simp only [findK] at h
  split at h
  ·rename_i hq
   have := keq_ok hk h1 hq
   refine .inr ⟨0,e.val,by simp [Instr.findNow,this],by simp,?_⟩
   simp only [delK,hq,List.eraseIdx_zero,List.tail_cons]
   exact h4
  ·rename_i hq
   have := keq_ok hk h1 hq
   rcases delK_ok hk es l' (i + 1) r h4 h with ⟨g1,g2⟩ | ⟨j,u',g1,g2,g3⟩
   ·exact .inl ⟨by simp [Instr.findNow,this,g1],by simp only [delK,hq,g2]⟩
   ·refine .inr ⟨j + 1,u',?_,by simp; omega,?_⟩
    ·simp only [Instr.findNow,this,g1]
     rw [show i + 1 + j = i + (j + 1) by omega]
    ·simp only [delK,hq,List.eraseIdx_cons_succ]
     exact ⟨e,_,h1,h2,h3,g3,rfl⟩
  ·cases h
theorem RepE.append : ∀ {es : List (SV × SV × Nat)} {l : List MapEntry} {k v : SV} {kv vv : Value} {n : Nat},RepE ρ es l → Rep ρ k kv → Rep ρ v vv → RepE ρ (es ++ [(k,v,n)]) (l ++ [⟨kv,vv,n⟩])
 | [],_,_,_,_,_,_,h,hk,hv => by cases h; exact ⟨_,[],hk,hv,rfl,rfl,rfl⟩
 | (_,_,_) :: _,_,_,_,_,_,_,⟨e,l',h1,h2,h3,h4,hl⟩,hk,hv => by subst hl; exact ⟨e,_,h1,h2,h3,RepE.append h4 hk hv,rfl⟩
theorem St.mapAt {W : World} {F : Nat → Prop} {h : Heap} {n : Nat} {es : List (SV × SV × Nat)} {cl : Nat} {rs : List Res} (hn : n < top) (hg : h.get n = some (.mp es cl)) (hS : St W F (res Ω ρ h ++ rs) w) {L : Nat × Nat} (hL : ρ n = some L) :
  ∃ l,RepE ρ es l ∧ w.heap[L.1]? = some (.map l.toArray cl) ∧ ∀ (es' : List (SV × SV × Nat)) (l' : List MapEntry) (cl' : Nat),RepE ρ es' l' → St W F (res Ω ρ (h.set n (.mp es' cl')) ++ rs) { w with heap := w.heap.setIfInBounds L.1 (.map l'.toArray cl') } := by
 obtain ⟨f,⟨f1,f2,⟨L',l,g1,g2,g3⟩,hs2,hd,hu⟩,s⟩ := St.out hn hg hS
 rw [hL] at g1; cases g1
 have hS2 : St W F (pts L.1 (.map l.toArray cl) :: (res Ω ρ (h.erase n) ++ rs)) w := ⟨f,⟨f1,f2,g3,hs2,hd,hu⟩,s⟩
 refine ⟨l,g2,hS2.get,fun es' l' cl' hr => ?_⟩
 exact St.back _ hn hg ((hS2.set (Zcc (o' := .map l'.toArray cl') hS2.get)).head fun g hg => ⟨L,l',hL,hr,hg⟩)
def Does (P : Program) (Ω : Opq) (ρ : Rho) (o : Oper) (σ : Env) (w : World) (W : World) (F : Nat → Prop) (rs : List Res) (n : Nat) (s : SV) (m' : Mem) : Prop :=
 ∃ ρ' v w',ρ.ext n m'.n ρ' ∧ ρ'.below m'.n ∧ m'.n ≤ top ∧ Rep ρ' s v ∧ (∀ N ds a,Fr σ N ds a → (execOp a.eval o).run P w = .ok (.value v) w' ∨ ((execOp a.eval o).run P w = .ok .skip w' ∧ v = undef)) ∧ St W F (res Ω ρ' m'.h ++ rs) w'
theorem Zeh {n k : Nat} {L : Nat × Nat} (hb : ρ.below n) (ht : n ≤ top) (h : ρ k = some L) : k < top := by
 rcases Nat.lt_or_ge k n with q | q
 ·omega
 ·rw [hb k q] at h; cases h
theorem storeOp_ok (hΓ : Zdv P Γ) (he : EnvR ρ e σ) {m m' : Mem} (hb : ρ.below m.n) (ht : m.n ≤ top) {W : World} {F : Nat → Prop} {rs : List Res} (hS : St W F (res Ω ρ m.h ++ rs) w) {t : TypeId} {x y : Operand} (ho : o.op = .store t x y) {s : SV} (h : mainOp Γ e m (.store t x y) = some (s,m')) : Does P Ω ρ o σ w W F rs m.n s m' := by
 simp only [mainOp] at h
 split at h
 ·rename_i n off hx
  split at h
  ·rename_i v hy
   split at h
   ·rename_i sz hsz
    replace h := Zas h; obtain ⟨hl,h⟩ := h
    split at h
    ·rename_i h' hst
     cases h
     have hl := Zcb hl
     obtain ⟨u,⟨L,hL,rfl⟩,hx⟩ := Zbk he hx
     obtain ⟨u',hu',hy⟩ := Zbk he hy
     have hc := Rep.cells hu'
     obtain ⟨_,_,w',g1,g2⟩ := storeS_ok (P := P) hS (Zeh hb ht hL) hc hL hst
     have hs := siz_ok hΓ hsz
     have hlen : u'.cells.size = sz := by have := RepL.length hc; simp at this; omega
     refine ⟨ρ,undef,w',Rho.ext.rfl,hb,ht,⟨[],rfl,rfl⟩,fun N ds a ha => .inr ⟨?_,rfl⟩,g2⟩
     simp [execOp,ho,ha.eval hx,ha.eval hy,Instr.storeAt,Instr.sureAddr,storeVar,Zb0 (n := sz),hlen,g1]
    ·cases h
   ·cases h
  ·cases h
 ·cases h
theorem convOp_ok (hΓ : Zdv P Γ) (he : EnvR ρ e σ) {m m' : Mem} (hb : ρ.below m.n) (ht : m.n ≤ top) {W : World} {F : Nat → Prop} {rs : List Res} (hS : St W F (res Ω ρ m.h ++ rs) w) {s0 d0 : TypeId} {x : Operand} (ho : o.op = .convert s0 d0 x) {s : SV} (h : mainOp Γ e m (.convert s0 d0 x) = some (s,m')) : Does P Ω ρ o σ w W F rs m.n s m' := by
 simp only [mainOp] at h
 replace h := Zas h; obtain ⟨hsd,h⟩ := h
 have hsd := Zcb hsd; subst hsd
 split at h
 ·rename_i el hd
  split at h
  ·rename_i hel
   split at h
   ·rename_i n k c hx
    split at h
    ·rename_i t sz cs hg
     replace h := Zas h; obtain ⟨hq,h⟩ := h
     simp only [Bool.and_eq_true] at hq
     have hsz := Zcb hq.1; have hpos := Zcr hq.2
     subst hsz
     cases h
     obtain ⟨u,⟨L,hL,hkc,rfl⟩,hx⟩ := Zbk he hx
     have hn := Zeh hb ht hL
     obtain ⟨f,⟨f1,f2,⟨L',vs,g1,g2,g3⟩,hs2,hdj,hun⟩,st⟩ := St.out hn hg hS
     rw [hL] at g1; cases g1
     have hlen := RepL.length g2
     obtain ⟨hle,hcm,⟨h0,_⟩ | ⟨b',cells,hbe,rfl,hcz,htk⟩⟩ := g3
     ·rw [h0,Nat.zero_mul] at hle; omega
     ·cases hbe
      have hS2 : St W F (pts L.1 (.cells cells t (0,0)) :: (res Ω ρ (m.h.erase n) ++ rs)) w := ⟨f,⟨_,f2,rfl,hs2,hdj,hun⟩,st⟩
      have hbk := hS2.get
      have uu : SetBlock w (w.freeze ⟨L.1,cells.size,none⟩ 1) L.1 (.cells cells t (cells.size,cells.size + 1)) := by
       unfold World.freeze
       rw [if_neg (by omega)]
       refine ⟨by simp,?_,fun k hk => ?_,rfl,rfl,rfl⟩
       ·rw [Array.getElem?_modify,if_pos rfl,hbk]; rfl
       ·rw [Array.getElem?_modify,if_neg (Ne.symm hk)]
      have hsh : (shape L.1).run P w = .ok (some (t,cells.size)) w := by simp [shape,Sem.run,World.shape?,hbk]
      have hms : (markStringish ⟨L.1,0,none⟩).run P w = .ok () (w.freeze ⟨L.1,cells.size,none⟩ 1) := by
       unfold markStringish
       rw [Sem.run_bind,hsh]
       rfl
      have i1 := (Zb7 hΓ hd).und
      have i2 := (Zb7 hΓ hel).und
      refine ⟨ρ,_,_,Rho.ext.rfl,hb,ht,⟨L,hL,hkc,rfl⟩,fun N ds a ha => .inl ?_,St.back (.ro cs) hn hg ((hS2.set uu).head fun g hg => ⟨L,vs,hL,g2,.inr ⟨L.1,0,cells,t,_,rfl,hg,fun i v hv => ?_⟩⟩)⟩
      ·simp [execOp,ho,ha.eval hx,convert,run_underlying i1,run_underlying i2,hms,Result.andThen]
      ·rw [← htk,List.getElem?_take] at hv
       split at hv
       ·simpa using hv
       ·cases hv
    ·cases h
   ·cases h
  ·cases h
 ·cases h
theorem mapOp_ok (hΓ : Zdv P Γ) (he : EnvR ρ e σ) {m m' : Mem} (hb : ρ.below m.n) (ht : m.n ≤ top) {W : World} {F : Nat → Prop} {rs : List Res} (hS : St W F (res Ω ρ m.h ++ rs) w) {t : TypeId} {x k v : Operand} (ho : o.op = .mapUpdate t x k v ∨ o.op = .insert t x k v) {s : SV} (h : mainOp Γ e m (.mapUpdate t x k v) = some (s,m')) : Does P Ω ρ o σ w W F rs m.n s m' := by
 simp only [mainOp] at h
 split at h
 ·rename_i kt et hd
  split at h
  ·rename_i d hdk
   split at h
   ·rename_i n hx
    split at h
    ·rename_i k' hk
     split at h
     ·rename_i v' hv
      split at h
      ·rename_i es cl hg
       obtain ⟨u,⟨L,hL,rfl⟩,hx⟩ := Zbk he hx
       obtain ⟨kv,hkv,hk⟩ := Zbk he hk
       obtain ⟨vv,hvv,hv⟩ := Zbk he hv
       have i1 := (Zb7 hΓ hd).und
       have i2 := (Zb7 hΓ hdk).und
       obtain ⟨l,g1,g2,g3⟩ := St.mapAt (Zeh hb ht hL) hg hS hL
       have hgo : (getObj L.1).run P w = .ok (.map l.toArray cl) w := by simp [getObj,Sem.run,g2]
       have hset : ∀ o',(setObj L.1 o').run P w = .ok () { w with heap := w.heap.setIfInBounds L.1 o' } := fun o' => run_setObj_map o' g2
       have hex : ∀ a N ds,Fr σ N ds a → execOp a.eval o = (do Instr.mapUpdate t (.map (some L.1)) kv vv; pure .skip) := fun a N ds ha => by
        rcases ho with ho | ho <;> simp [execOp,ho,ha.eval hx,ha.eval hk,ha.eval hv]
       have hko : keyOk d k' = true ∧ ∀ r,findKey d k' es = some r → findK d k' es = some r := by
        unfold findKey at h
        cases q : keyOk d k' with
        | false => simp only [q,cond_false] at h; cases h
        | true => exact ⟨rfl,fun r hr => by simpa [findKey,q] using hr⟩
       have hck : (Instr.checkKey false 10000 kt kv).run P w = .ok () w := run_checkKey (n := 9999) i2 (keyOk_ok hkv hko.1) _
       split at h
       ·rename_i r hr
        cases h
        obtain ⟨j,u',q1,q2,q3⟩ := setK_ok hkv hvv es l 0 r g1 (hko.2 _ hr)
        have hf := run_findKey (P := P) (w := w) i2 q1
        simp only [Nat.zero_add] at hf
        refine ⟨ρ,undef,_,Rho.ext.rfl,hb,ht,⟨[],rfl,rfl⟩,fun N ds a ha => .inr ⟨?_,rfl⟩,g3 _ _ cl q3⟩
        have hek : ((l.toArray[j]?).map (·.key)).getD kv = kv := by simp [q2]
        rw [hex a N ds ha]
        simp only [Instr.mapUpdate,Sem.run_bind,run_underlying i1,hgo,hck,hf,hset,Result.andThen_ok,Sem.run_pure,hek,Instr.keyThatStays,sameBits_key hkv hko.1,if_true]
        simp
       ·rename_i hr
        cases h
        rcases findK_ok hkv es l 0 none g1 (hko.2 _ hr) with ⟨_,q1⟩ | ⟨_,_,_,q,_⟩
        ·have hf := run_findKey (P := P) (w := w) i2 q1
         refine ⟨ρ,undef,_,Rho.ext.rfl,hb,ht,⟨[],rfl,rfl⟩,fun N ds a ha => .inr ⟨?_,rfl⟩,g3 _ _ (cl + 1) (RepE.append (n := cl) g1 hkv hvv)⟩
         rw [hex a N ds ha]
         simp only [Instr.mapUpdate,Sem.run_bind,run_underlying i1,hgo,hck,hf,hset,Result.andThen_ok,Sem.run_pure]
         simp
        ·cases q
       ·cases h
      ·cases h
     ·cases h
    ·cases h
   ·cases h
  ·cases h
 ·cases h
theorem srcOf_ok {h : Heap} (hR : HeapRd Ω ρ h w) {sz a n : Nat} {x : SV} {xv : Value} (hx : Rep ρ x xv) {xs : List SV} (hs : srcOf h sz a x = some (n,xs)) :
  ∃ us b,RepL ρ xs us ∧ n = Nat.min b a ∧ (Builtin.lenOf xv).run P w = .ok b w ∧ (Builtin.firstCells sz (Nat.min b a) xv).run P w = .ok us.toArray w ∧ (Nat.min b a = 0 → us = []) := by
 unfold srcOf at hs
 split at hs
 ·rename_i l
  cases hs
  obtain ⟨h256,rfl⟩ := hx
  have key : ∀ l : List Nat,(∀ x ∈ l,x < 256) → RepL ρ (bytesS l) (bv (l.map UInt8.ofNat)) := by
   intro l
   induction l with
   | nil => intro _; exact RepL.nil
   | cons q l ih =>
    intro hq
    refine RepL.cons ?_ (ih fun x hx => hq x (List.mem_cons_of_mem _ hx))
    have : q < 256 := hq q (List.mem_cons_self ..)
    show Value.int .u8 _ = Value.int .u8 _
    simp [Nat.mod_eq_of_lt this]
  refine ⟨bv ((l.take (Nat.min l.length a)).map UInt8.ofNat),l.length,key _ fun x hx => h256 x (List.mem_of_mem_take hx),rfl,by simp [Builtin.lenOf,bs_size],?_,fun q => by simp [q,bv]⟩
  simp [Builtin.firstCells,bs,bv,List.map_take]
 ·split at hs
  ·rename_i b hb
   split at hs
   ·rename_i c hc
    cases hs
    obtain ⟨q,cp,rfl,_⟩ := Zd1 hx hb
    obtain ⟨us,q1,q2,q3⟩ := segOf_ok hR hx hc
    refine ⟨us,b,q1,rfl,by simp [Builtin.lenOf],?_,fun q => List.eq_nil_of_length_eq_zero (by rw [q2,q]; simp)⟩
    have := Zb3 (P := P) (size := sz) (m := Nat.min b a) (c := cp) q3 q2
    cases q <;> exact this
   ·cases hs
  ·cases hs
theorem dstAt_ok {sz o off n c : Nat} {d : SV} {a : Option Addr} (hd : Rep ρ d (.slice a n c)) (h : dstAt sz d = some (o,off)) : ∃ L,ρ o = some L ∧ a = some ⟨L.1,off,none⟩ := by
 unfold dstAt at h
 split at h
 ·cases h; obtain ⟨L,hL,_,hq⟩ := hd; cases hq; exact ⟨L,hL,rfl⟩
 ·replace h := Zas h; obtain ⟨h1,h⟩ := h
  have h1 := Zcb h1; subst h1
  cases h; obtain ⟨L,hL,_,hq⟩ := hd; cases hq; exact ⟨L,hL,rfl⟩
 ·cases h
theorem evMain_ok (hΓ : Zdv P Γ) {m m' : Mem} (hb : ρ.below m.n) (ht : m.n ≤ top) {W : World} {F : Nat → Prop} {rs : List Res} (hS : St W F (res Ω ρ m.h ++ rs) w) {b : Builtin} {ars : List SV} {vs : List Value} (hv : RepL ρ ars vs) {ts : Array TypeId} {ty : TypeId} {s : SV} (h : evMain Γ m b ars ts.toList = some (s,m')) :
  ∃ ρ' v w',ρ.ext m.n m'.n ρ' ∧ ρ'.below m'.n ∧ m'.n ≤ top ∧ Rep ρ' s v ∧ (∀ cs,(builtin b ts ty cs vs.toArray).run P w = .ok (.value v) w') ∧ St W F (res Ω ρ' m'.h ++ rs) w' := by
 have hR := St.heapRd hS
 unfold evMain at h
 split at h
 ·-- append
  rename_i s0 x st xt hts
  obtain ⟨sv,_,hs,⟨xv,_,hx,hnil,rfl⟩,rfl⟩ := hv
  cases hnil
  split at h
  ·rename_i el hd
   split at h
   ·rename_i ti hti
    split at h
    ·rename_i d hdx
     have hux := (Zb7 hΓ hdx).und
     have fin : ∀ (xs : List SV) (news : List Value) (k : Nat),AppArg P el ti.size xt xv k news w → RepL ρ xs news → appendS m ti el s0 xs k = some (s,m') →
       ∃ ρ' v w',ρ.ext m.n m'.n ρ' ∧ ρ'.below m'.n ∧ m'.n ≤ top ∧ Rep ρ' s v ∧ (∀ cs,(builtin .append ts ty cs #[sv,xv]).run P w = .ok (.value v) w') ∧ St W F (res Ω ρ' m'.h ++ rs) w' := by
      intro xs news k ha hxs h
      obtain ⟨ρ',v,w',q1,q2,q3,q4,q5,q6⟩ := appendS_ok (ty := ty) hΓ hb ht hS hd hti (St.fresh hS hb (Nat.le_refl _)) hs ha hxs h
      refine ⟨ρ',v,w',q1,q2,q3,q4,fun cs => ?_,q6⟩
      have : ts = #[st,xt] := by apply Array.ext'; simpa using hts
      subst this
      simp [builtin,q5]
     obtain ⟨z,hi,hz2,_,_⟩ := (hΓ el ti hti).inf
     split at h
     ·rename_i kk k0 k
      replace h := Zas h; obtain ⟨h1,h⟩ := h
      replace h := Zas h; obtain ⟨h2,h⟩ := h
      have h1 := Zca h1; have h2 := Zca h2
      cases hx
      exact fin _ _ k (.zs hux hi rfl h2 h1) (RepL.rep (Ze6 _ _ hz2) k) h
     ·split at h
      ·rename_i k hk
       split at h
       ·rename_i xs hxs
        obtain ⟨a,c,rfl,_⟩ := Zd1 hx hk
        obtain ⟨us,q1,q2,q3⟩ := segOf_ok hR hx hxs
        exact fin _ _ k (.sl hux q3 q2) q1 h
       ·cases h
      ·cases h
     ·rename_i l
      replace h := Zas h; obtain ⟨h1,h⟩ := h
      have h1 := Zcb h1
      obtain ⟨h256,rfl⟩ := hx
      rw [bs_str] at fin
      have hl : (l.map UInt8.ofNat).length = l.length := by simp
      have := AppArg.st (P := P) (el := el) (size := ti.size) (xt := xt) (l := l.map UInt8.ofNat) (w := w) hux h1
      rw [hl] at this
      rw [bs_str]
      refine fin _ _ l.length this ?_ h
      have key : ∀ l : List Nat,(∀ x ∈ l,x < 256) → RepL ρ (bytesS l) (bv (l.map UInt8.ofNat)) := by
       intro l
       induction l with
       | nil => intro _; exact RepL.nil
       | cons q l ih =>
        intro hq
        refine RepL.cons ?_ (ih fun x hx => hq x (List.mem_cons_of_mem _ hx))
        have : q < 256 := hq q (List.mem_cons_self ..)
        show Value.int .u8 _ = Value.int .u8 _
        simp [Nat.mod_eq_of_lt this]
      exact key l h256
     ·cases h
    ·cases h
   ·cases h
  ·cases h
 ·-- copy
  rename_i d x st r hts
  obtain ⟨dv,_,hdv,⟨xv,_,hxv,hnil,rfl⟩,rfl⟩ := hv
  cases hnil
  have ht0 : ts[0]? = some st := by have := congrArg (·[0]?) hts; simpa using this
  split at h
  ·rename_i el hd
   split at h
   ·rename_i sz hsz
    split at h
    ·rename_i a ha
     split at h
     ·rename_i n xs hsrc
      obtain ⟨da,dc,rfl,_⟩ := Zd1 hdv ha
      have hU := (Zb7 hΓ hd).und
      have hS' := siz_ok hΓ hsz
      obtain ⟨us,b,q1,q2,q3,q4,q5⟩ := srcOf_ok (P := P) hR hxv hsrc
      subst q2
      rcases Zb9 h with ⟨h0,h⟩ | ⟨h0,h⟩
      ·have h0 := Zcb h0
       cases h
       have hus : us = [] := q5 h0
       subst hus
       rw [h0] at q4
       refine ⟨ρ,_,w,Rho.ext.rfl,hb,ht,rfl,fun cs => ?_,hS⟩
       cases da <;> simp [builtin,Builtin.copy_,ht0,run_underlying hU,q3,Zb0 (n := sz),q4,goInt,h0,storeCells]
      ·split at h
       ·rename_i on off hdst
        split at h
        ·rename_i h' hst
         cases h
         obtain ⟨L,hL,rfl⟩ := dstAt_ok hdv hdst
         obtain ⟨_,_,w',g1,g2⟩ := storeS_ok (P := P) hS (Zeh hb ht hL) q1 hL hst
         refine ⟨ρ,_,w',Rho.ext.rfl,hb,ht,rfl,fun cs => ?_,g2⟩
         simp [builtin,Builtin.copy_,ht0,run_underlying hU,q3,Zb0 (n := sz),q4,goInt,g1]
        ·cases h
       ·cases h
     ·cases h
    ·cases h
   ·cases h
  ·cases h
 ·-- clear
  rename_i d st r hts
  obtain ⟨dv,_,hdv,hnil,rfl⟩ := hv
  cases hnil
  have ht0 : ts[0]? = some st := by have := congrArg (·[0]?) hts; simpa using this
  split at h
  ·rename_i el hd
   split at h
   ·rename_i ti hti
    split at h
    ·rename_i n hn
     obtain ⟨da,dc,rfl,_⟩ := Zd1 hdv hn
     have hU := (Zb7 hΓ hd).und
     rcases Zb9 h with ⟨h0,h⟩ | ⟨h0,h⟩
     ·have h0 := Zcb h0; subst h0
      cases h
      refine ⟨ρ,_,w,Rho.ext.rfl,hb,ht,⟨[],rfl,rfl⟩,fun cs => ?_,hS⟩
      cases da <;> simp [builtin,Builtin.clear_,ht0,run_underlying hU]
     ·split at h
      ·rename_i on off hdst
       split at h
       ·rename_i h' hst
        cases h
        obtain ⟨L,hL,rfl⟩ := dstAt_ok hdv hdst
        obtain ⟨z,hi,hz2,_,_⟩ := (hΓ el ti hti).inf
        obtain ⟨i,hi',hz',_,_⟩ := info_parts hi.inf
        obtain ⟨_,_,w',g1,g2⟩ := storeS_ok (P := P) hS (Zeh hb ht hL) (RepL.rep (Ze6 _ _ hz2) n) hL hst
        refine ⟨ρ,_,w',Rho.ext.rfl,hb,ht,⟨[],rfl,rfl⟩,fun cs => ?_,g2⟩
        have hzv : (zeroValue el).run P w = .ok z w := by simp [zeroValue,typeInfo,hi',hz']
        obtain ⟨m0,rfl⟩ : ∃ m0,n = m0 + 1 := ⟨n - 1,by have : n ≠ 0 := (fun q => by subst q; cases h0); omega⟩
        simp [builtin,Builtin.clear_,ht0,run_underlying hU,hzv,zeroCells_rep,g1]
       ·cases h
      ·cases h
    ·cases h
   ·cases h
  ·cases h
 ·-- delete
  rename_i n k t r hts
  obtain ⟨_,_,⟨L,hL,rfl⟩,⟨kv,_,hkv,hnil,rfl⟩,rfl⟩ := hv
  cases hnil
  split at h
  ·rename_i kt et hd
   split at h
   ·rename_i d hdk
    split at h
    ·rename_i es cl hg
     split at h
     ·rename_i q hq
      cases h
      have i1 := (Zb7 hΓ hd).und
      have i2 := (Zb7 hΓ hdk).und
      unfold findKey at hq
      replace hq := Zas hq; obtain ⟨hko,hq⟩ := hq
      obtain ⟨l,g1,g2,g3⟩ := St.mapAt (Zeh hb ht hL) hg hS hL
      have hgo : (getObj L.1).run P w = .ok (.map l.toArray cl) w := by simp [getObj,Sem.run,g2]
      have hset : ∀ o',(setObj L.1 o').run P w = .ok () { w with heap := w.heap.setIfInBounds L.1 o' } := fun o' => run_setObj_map o' g2
      have hck : ∀ b,(Instr.checkKey b 10000 kt kv).run P w = .ok () w := fun b => run_checkKey (n := 9999) i2 (keyOk_ok hkv hko) _
      have ht0 : ts[0]? = some t := by have := congrArg (·[0]?) hts; simpa using this
      rcases delK_ok hkv es l 0 q g1 hq with ⟨q1,q2⟩ | ⟨j,u,q1,q2,q3⟩
      ·have hf := run_findKey (P := P) (w := w) i2 q1
       refine ⟨ρ,_,_,Rho.ext.rfl,hb,ht,⟨[],rfl,rfl⟩,fun cs => ?_,by rw [q2]; exact g3 _ _ cl g1⟩
       simp [builtin,Builtin.delete_,ht0,run_underlying i1,hgo,hck,hf,hset,Result.andThen]
      ·have hf := run_findKey (P := P) (w := w) i2 q1
       simp only [Nat.zero_add] at hf
       refine ⟨ρ,_,_,Rho.ext.rfl,hb,ht,⟨[],rfl,rfl⟩,fun cs => ?_,g3 _ _ cl q3⟩
       have e1 : l.toArray.eraseIdxIfInBounds j = (l.eraseIdx j).toArray := by unfold Array.eraseIdxIfInBounds; rw [dif_pos (by simpa using q2)]; simp
       simp [builtin,Builtin.delete_,ht0,run_underlying i1,hgo,hck,hf,hset,Result.andThen]
     ·cases h
    ·cases h
   ·cases h
  ·cases h
 ·cases h
theorem mainOp_ok (hΓ : Zdv P Γ) (he : EnvR ρ e σ) {m m' : Mem} (hb : ρ.below m.n) (ht : m.n ≤ top) {W : World} {F : Nat → Prop} {rs : List Res} (hS : St W F (res Ω ρ m.h ++ rs) w) {s : SV} (h : mainOp Γ e m o.op = some (s,m')) : Does P Ω ρ o σ w W F rs m.n s m' := by
 generalize hop : o.op = op at h
 cases op
 case store => exact storeOp_ok hΓ he hb ht hS hop h
 case convert => exact convOp_ok hΓ he hb ht hS hop h
 case mapUpdate => exact mapOp_ok hΓ he hb ht hS (.inl hop) h
 case insert => exact mapOp_ok hΓ he hb ht hS (.inr hop) h
 case call c =>
  obtain ⟨callee,args,ts⟩ := c
  cases callee
  case builtin b =>
   simp only [mainOp] at h
   split at h
   ·rename_i ars has
    obtain ⟨vs,hvs,hev⟩ := opnds_ok he has
    obtain ⟨ρ',v,w',q1,q2,q3,q4,q5,q6⟩ := evMain_ok (ty := o.type) hΓ hb ht hS hvs h
    refine ⟨ρ',v,w',q1,q2,q3,q4,fun N ds a ha => .inl ?_,q6⟩
    obtain ⟨cs,hc⟩ := Zdt hop hev ha
    rw [hc,q5 cs]
   ·cases h
  all_goals (simp only [mainOp] at h; cases h)
 all_goals (simp only [mainOp] at h; cases h)
end
end Cr.Cl
namespace Cr.Cl
noncomputable section
open Go Go.MapKept
set_option maxRecDepth 4000

inductive Ex where
 | n
 | r
 | x (id : Nat)
def Ex.exit : Ex → Exit
 | .n => .normal
 | .r => .ret
 | .x id => .exit id
inductive Job where
 | code (c : Code) (e : Envs) (m : Mem)
 | loop (c : Code) (e : Envs) (m : Mem)
 | call (f : Nat) (args : List SV) (m : Mem)
inductive Rs where
 | out (x : Ex) (e : Envs) (m : Mem)
 | ret (v : SV) (m : Mem)
def putE (d : Option Tmp) (v : SV) (e : Envs) : Envs := match d with | some d => e.set d v | none => e
def Zfr : SV := .tup []
def wantedS (e : Envs) (all : List Oper) (g : Option (Nat × Bool)) : Option Bool :=
 match g with
 | none => some true
 | some (j,b) => match all[j]? with
  | some o => match o.dst with
   | some d => match e.get d with
    | some (.b c) => some (c == b)
    | some (.tup []) => some false
    | _ => none
   | none => none
  | none => none
def resolveS (e : Envs) (c : Call) : Option (Nat × List SV) :=
 match c.callee with
 | .value f => match opnd e f with
  | some (.fn (.func g) first cap) => match opnds e c.args.toList with
   | some vs => some (g,first ++ vs ++ cap)
   | none => none
  | _ => none
 | _ => none
section
variable (Γ : Ctx) (rec : Job → Option Rs)
def heavy (e : Envs) (m : Mem) (op : Op) : Option (SV × Mem) :=
 match mainOp Γ e m op with
 | some r => some r
 | none => match op with
  | .call c => match resolveS e c with
   | some (f,args) => match Γ.ext.get f with
    | some xf => xf args m
    | none => match rec (.call f args m) with
     | some (.ret v m) => some (v,m)
     | _ => none
   | none => none
  | _ => none
def oneOp (e : Envs) (m : Mem) (o : Oper) : Option (Envs × Mem) :=
 match Zd0 Γ e o.op with
 | some v => some (putE o.dst v e,m)
 | none => match Zft Γ e m.h o.op with
  | some v => some (putE o.dst v e,m)
  | none => match allocOp Γ e o.op with
   | some (ob,mk) => match o.dst with
    | some d => bif Nat.blt m.n top then some (e.set d (mk.at m.n),⟨m.h.set m.n ob,m.n + 1⟩) else none
    | none => none
   | none => match heavy Γ rec e m o.op with
    | some (v,m) => some (putE o.dst v e,m)
    | none => none
def runOps (all : List Oper) : List Oper → Envs → Mem → Option (Envs × Mem)
 | [],e,m => some (e,m)
 | o :: r,e,m => match wantedS e all o.guard with
  | some true => match oneOp Γ rec e m o with
   | some (e,m) => runOps all r e m
   | none => none
  | some false => runOps all r (putE o.dst Zfr e) m
  | none => none
end
def Zfg (N : Nat) (o : Oper) : Bool :=
 (match o.dst with | some d => Nat.blt d N | none => (match o.guard with | some _ => false | none => true)) && nodef o.op

section
variable {P : Program} {Γ : Ctx} {Ω : Opq} {N : Nat} {W : World} {F : Nat → Prop} {rs : List Res} {Gd : World → (Nat → Prop) → Prop}
structure StS (Ω : Opq) (W : World) (F : Nat → Prop) (rs : List Res) (n0 : Nat) (ρ0 : Rho) (e : Envs) (m : Mem) (σ : Env) (w : World) (ρ : Rho) : Prop where
 ext : ρ0.ext n0 m.n ρ
 env : EnvR ρ e σ
 below : ρ.below m.n
 top : m.n ≤ top
 st : St W F (res Ω ρ m.h ++ rs) w
def StE (Ω : Opq) (W : World) (F : Nat → Prop) (rs : List Res) (n0 : Nat) (ρ0 : Rho) (e : Envs) (m : Mem) (σ : Env) (w : World) : Prop := ∃ ρ,StS Ω W F rs n0 ρ0 e m σ w ρ
theorem X_mono {o : Oper} {ds : Md} {σ : Env} {w : World} {K K' : Env → World → Prop} (h : X P o N ds σ w K) (hk : ∀ σ w,K σ w → K' σ w) : X P o N ds σ w K' :=
 ⟨fun a ha K1 Q hK => h.run a ha K1 Q fun σ' w' a' ha' hk' => hK σ' w' a' ha' (hk _ _ hk')⟩
def Zff (P : Program) (Ω : Opq) (Gd : World → (Nat → Prop) → Prop) (f : Nat) (args : List SV) (m : Mem) (v : SV) (m' : Mem) : Prop :=
 Fun P f ∧ ∀ (W : World) (F : Nat → Prop),Gd W F → ∀ (rs : List Res) (ρ : Rho) (vs : List Value) (w : World),RepL ρ args vs → ρ.below m.n → m.n ≤ top → St W F (res Ω ρ m.h ++ rs) w →
  Calls P f vs.toArray w (Ret fun u w' => ∃ ρ',ρ.ext m.n m'.n ρ' ∧ ρ'.below m'.n ∧ m'.n ≤ top ∧ Rep ρ' v u ∧ St W F (res Ω ρ' m'.h ++ rs) w')
def ExtS (P : Program) (Ω : Opq) (f : Nat) (args : List SV) (m : Mem) (v : SV) (m' : Mem) : Prop :=
 ∀ (W : World) (F : Nat → Prop) (rs : List Res) (ρ : Rho) (vs : List Value) (w : World),RepL ρ args vs → ρ.below m.n → m.n ≤ top → St W F (res Ω ρ m.h ++ rs) w →
  ∃ ρ' u w',ρ.ext m.n m'.n ρ' ∧ ρ'.below m'.n ∧ m'.n ≤ top ∧ Rep ρ' v u ∧ (callFunc f vs.toArray).run P w = .ok (.value u) w' ∧ St W F (res Ω ρ' m'.h ++ rs) w'
def CtxExt (P : Program) (Ω : Opq) (Γ : Ctx) : Prop := ∀ g xf,Γ.ext.get g = some xf → ∀ args m v m',xf args m = some (v,m') → ExtS P Ω g args m v m'
theorem EnvR.put {ρ : Rho} {e : Envs} {σ : Env} (h : EnvR ρ e σ) {d : Option Tmp} (hN : dstOk N d) (hNt : N ≤ top) {s : SV} {v : Value} (hv : Rep ρ s v) : EnvR ρ (putE d s e) (putV d v σ) := by
 cases d with
 | none => exact h
 | some d => exact h.set (by have := Zbl (hN d rfl); omega) hv
theorem X_callD {o : Oper} {ds : Md} {σ : Env} {w : World} {K : Env → World → Prop} {f : Operand} {xs : List Operand} {vs first captured : List Value} {ts : Array TypeId} {g : FuncId} {R : Value → World → Prop} (ho : o.op = .call { callee := .value f,args := xs.toArray,argTypes := ts }) (hf : ev σ f = some (.func (.func g) first.toArray captured.toArray)) (hv : evs σ xs = some vs) [hg : Fun P g]
  (hN : dstOk N o.dst) (hc : Calls P g (first ++ vs ++ captured).toArray w (Ret R)) (h : ∀ v w',R v w' → K (putV o.dst v σ) w') : X P o N ds σ w K := ⟨fun a ha K' Q' hK => by
 unfold Oper.wp
 have hexec : (execOp a.eval o).run P w = .ok (.enter g (first ++ vs ++ captured).toArray) w := by
  simp [execOp,ho,resolve,ha.eval hf,Deferred.ofValue,invoke,hg.run,ha.evals hv]
 rw [hexec]
 refine hc.mono fun e w' ⟨v,he,hR⟩ => ?_
 subst he
 exact hK _ _ _ (Fr.putV ha hN v) (h v w' hR)⟩
theorem resolveS_ok {ρ : Rho} {e : Envs} {σ : Env} (he : EnvR ρ e σ) {c : Call} {g : Nat} {args : List SV} (h : resolveS e c = some (g,args)) :
  ∃ (f : Operand) (first vs captured : List Value),c.callee = .value f ∧ ev σ f = some (.func (.func g) first.toArray captured.toArray) ∧ evs σ c.args.toList = some vs ∧ RepL ρ args (first ++ vs ++ captured) := by
 unfold resolveS at h
 split at h
 ·rename_i f hf
  split at h
  ·rename_i g' first cap hfn
   split at h
   ·rename_i vs hvs
    cases h
    obtain ⟨u,⟨va,vc,h1,h2,rfl⟩,hx⟩ := Zbk he hfn
    obtain ⟨us,h3,h4⟩ := opnds_ok he hvs
    exact ⟨f,va,us,vc,hf,hx,h4,RepL.append (RepL.append h1 h3) h2⟩
   ·cases h
  ·cases h
 ·cases h
theorem heavy_ok (hG : Gd W F) (hX : CtxExt P Ω Γ) (hΓ : Zdv P Γ) {rec : Job → Option Rs} (hrec : ∀ f args m v m',rec (.call f args m) = some (.ret v m') → Zff P Ω Gd f args m v m') {o : Oper} {e : Envs} {m m' : Mem} {v : SV} (h : heavy Γ rec e m o.op = some (v,m')) (hN : dstOk N o.dst) {ds : Md} {σ : Env} {w : World} {ρ : Rho}
  (he : EnvR ρ e σ) (hb : ρ.below m.n) (ht : m.n ≤ top) (hS : St W F (res Ω ρ m.h ++ rs) w) {K : Env → World → Prop}
  (hk : ∀ ρ' u w',ρ.ext m.n m'.n ρ' → ρ'.below m'.n → m'.n ≤ top → Rep ρ' v u → St W F (res Ω ρ' m'.h ++ rs) w' → K (putV o.dst u σ) w') : X P o N ds σ w K := by
 unfold heavy at h
 split at h
 ·rename_i r hr
  cases h
  obtain ⟨ρ',u,w',q1,q2,q3,q4,q5,q6⟩ := mainOp_ok hΓ he hb ht hS hr
  exact X_exec (fun a ha => q5 N ds a ha) hN (hk ρ' u w' q1 q2 q3 q4 q6)
 ·split at h
  ·rename_i c ho
   split at h
   ·rename_i f args hres
    obtain ⟨fo,first,vs,cap,q1,q2,q3,q4⟩ := resolveS_ok he hres
    obtain ⟨callee,cargs,cts⟩ := c
    simp only at q1 q3
    subst q1
    have ho' : o.op = .call { callee := .value fo,args := cargs.toList.toArray,argTypes := cts } := by rw [ho]
    split at h
    ·rename_i xf hxf
     obtain ⟨ρ',u,w',r1,r2,r3,r4,r5,r6⟩ := hX f xf hxf _ _ _ _ h W F rs ρ _ w q4 hb ht hS
     refine X_exec (v := u) (w' := w') (fun a ha => .inl ?_) hN (hk ρ' u w' r1 r2 r3 r4 r6)
     have hm : cargs.map a.eval = vs.toArray := by rw [← ha.evals q3]; apply Array.ext'; simp
     have : execOp a.eval o = callFunc f (first ++ vs ++ cap).toArray := by
      simp [execOp,ho,resolve,ha.eval q2,Deferred.ofValue,invoke,hm]
     rw [this,r5]
    ·split at h
     ·rename_i v' m2 hcall
      cases h
      obtain ⟨hg,hC⟩ := hrec _ _ _ _ _ hcall
      have hC := hC W F hG rs ρ _ w q4 hb ht hS
      exact X_callD ho' q2 q3 (hg := hg) hN hC fun u w' ⟨ρ',r1,r2,r3,r4,r5⟩ => hk ρ' u w' r1 r2 r3 r4 r5
     ·cases h
   ·cases h
  ·cases h
theorem oneOp_ok (hG : Gd W F) (hX : CtxExt P Ω Γ) (hΓ : Zdv P Γ) {rec : Job → Option Rs} (hrec : ∀ f args m v m',rec (.call f args m) = some (.ret v m') → Zff P Ω Gd f args m v m') (hNt : N ≤ top) {o : Oper} (hok : Zfg N o = true) {e e' : Envs} {m m' : Mem} (h : oneOp Γ rec e m o = some (e',m')) {ds : Md} {σ : Env} {w : World} {n0 : Nat} {ρ0 : Rho}
  (H : StE Ω W F rs n0 ρ0 e m σ w) : X P o N ds σ w (StE Ω W F rs n0 ρ0 e' m') := by
 obtain ⟨ρ,hle,he,hb,ht,hS⟩ := H
 have hN : dstOk N o.dst := fun k hk => by
  simp only [Zfg,hk,Bool.and_eq_true] at hok; exact hok.1
 unfold oneOp at h
 split at h
 ·rename_i v hv
  cases h
  obtain ⟨u,hu,hy⟩ := pureOp_ok (w := w) hΓ he hv
  exact X_exec (fun a ha => .inl (hy.run N ds a ha)) hN ⟨ρ,hle,he.put hN hNt hu,hb,ht,hS⟩
 ·split at h
  ·rename_i v hv
   cases h
   obtain ⟨u,hu,hy⟩ := readOp_ok hΓ he (St.heapRd hS) hv
   exact X_exec (fun a ha => .inl (hy.run N ds a ha)) hN ⟨ρ,hle,he.put hN hNt hu,hb,ht,hS⟩
  ·split at h
   ·rename_i ob mk hal
    split at h
    ·rename_i d hd
     replace h := Zas h; obtain ⟨htop,h⟩ := h
     cases h
     have htop := Zcr htop
     refine allocOp_ok (Ω := Ω) hΓ he hal (hb m.n (Nat.le_refl _)) hd (hN d hd) hS fun L v w' hv hS' => ?_
     have hle' := Rho.add_le (L := L) (hb m.n (Nat.le_refl _))
     refine ⟨ρ.add m.n L,hle.trans (Rho.ext.add (hb m.n (Nat.le_refl _))),?_,hb.add _,by show m.n + 1 ≤ top; omega,St.new htop (St.fresh hS hb (Nat.le_refl _)) (St.mono' hle' hS')⟩
     have := Zbl (hN d hd)
     exact (he.mono hle').set (by omega) hv
    ·cases h
   ·split at h
    ·rename_i v m2 hh
     cases h
     exact heavy_ok hG hX hΓ hrec hh hN he hb ht hS fun ρ' u w' r1 r2 r3 r4 r5 => ⟨ρ',hle.trans r1,(he.mono r1.1).put hN hNt r4,r2,r3,r5⟩
    ·cases h
theorem runOps_ok (hG : Gd W F) (hX : CtxExt P Ω Γ) (hΓ : Zdv P Γ) {rec : Job → Option Rs} (hrec : ∀ f args m v m',rec (.call f args m) = some (.ret v m') → Zff P Ω Gd f args m v m') (hNt : N ≤ top) {all : List Oper} {ds : Md} {Q : Exit → Act → World → Prop} {n0 : Nat} {ρ0 : Rho} : ∀ (l : List Oper) (e e' : Envs) (m m' : Mem) (σ : Env) (w : World),
  (∀ o ∈ l,Zfg N o = true) → runOps Γ rec all l e m = some (e',m') → StE Ω W F rs n0 ρ0 e m σ w → (∀ σ w,StE Ω W F rs n0 ρ0 e' m' σ w → E Q .normal N ds σ w) → G P all.toArray Q l N ds σ w
 | [],e,e',m,m',σ,w,_,h,H,hE => by
  simp only [runOps,Option.some.injEq,Prod.mk.injEq] at h
  obtain ⟨rfl,rfl⟩ := h
  exact Zah (hE σ w H)
 | o :: r,e,e',m,m',σ,w,hl,h,H,hE => by
  have hok := hl o (List.mem_cons_self ..)
  have hnd : nodef o.op = true := by simp only [Zfg,Bool.and_eq_true] at hok; exact hok.2
  have ih := fun e e1 m m1 σ w => runOps_ok hG hX hΓ hrec hNt (all := all) (ds := ds) (Q := Q) (n0 := n0) (ρ0 := ρ0) r e e1 m m1 σ w fun o ho => hl o (List.mem_cons_of_mem _ ho)
  simp only [runOps] at h
  split at h
  ·rename_i hw
   split at h
   ·rename_i e1 m1 h1
    have hX := oneOp_ok hG hX hΓ hrec hNt hok h1 (ds := ds) H
    have hX2 := X_mono hX fun σ' w' H' => ih _ _ _ _ σ' w' h H' hE
    unfold wantedS at hw
    split at hw
    ·rename_i hg
     exact Zac hg hnd hX2
    ·rename_i j b hg
     split at hw
     ·rename_i oj hj
      split at hw
      ·rename_i d hd
       obtain ⟨ρ,_,he,_⟩ := H
       split at hw
       ·rename_i c hc
        obtain ⟨u,hu,hlk⟩ := he d _ hc
        cases hu
        have : c = b := by simpa using hw
        subst this
        exact Zcp hg (by simp [hj,hd]) hlk hnd hX2
       ·cases hw
       ·cases hw
      ·cases hw
     ·cases hw
   ·cases h
  ·rename_i hw
   have hHu : ∀ d,o.dst = some d → StE Ω W F rs n0 ρ0 (putE o.dst Zfr e) m ((d,undef) :: σ) w := fun d hd => by
    obtain ⟨ρ,hle,he,hb,ht,hS⟩ := H
    refine ⟨ρ,hle,?_,hb,ht,hS⟩
    rw [hd]
    have hN : Nat.blt d N = true := by simp only [Zfg,hd,Bool.and_eq_true] at hok; exact hok.1
    exact he.set (by have := Zbl hN; omega) ⟨[],rfl,rfl⟩
   unfold wantedS at hw
   split at hw
   ·cases hw
   ·rename_i j b hg
    cases hdo : o.dst with
    | none => simp [Zfg,hdo,hg] at hok
    | some t =>
    have hN : Nat.blt t N = true := by simp only [Zfg,hdo,Bool.and_eq_true] at hok; exact hok.1
    split at hw
    ·rename_i oj hj
     split at hw
     ·rename_i d hd
      have hrest := ih _ _ _ _ _ w h (hHu t hdo) hE
      obtain ⟨ρ,_,he,_⟩ := H
      split at hw
      ·rename_i c hc
       obtain ⟨u,hu,hlk⟩ := he d _ hc
       cases hu
       exact G_no hg (by simp [hj,hd]) hlk (by simpa using hw) hdo hN hrest
      ·rename_i hc
       obtain ⟨u,⟨us,hus,rfl⟩,hlk⟩ := he d _ hc
       cases hus
       exact G_no_undef hg (by simp [hj,hd]) hlk hdo hN hrest
      ·cases hw
     ·cases hw
    ·cases hw
  ·cases h
end
end
end Cr.Cl
namespace Cr.Cl
noncomputable section
open Go Go.MapKept
set_option maxRecDepth 4000

inductive Kd where
 | soft
 | alloc (ob : SO) (mk : Mk)
 | read
 | main
structure Ent where
 v : SV
 kd : Kd
structure DSt where
 ents : List Ent
 mems : List (Nat × Mem)
 mains : List Nat
 abs : Nat
 cur : Mem
def bit (m k : Nat) : Bool := Nat.testBit m k
def Zdn (ms : List Nat) : List Edge → Nat
 | [] => 0
 | e :: r => bif Region.binds .any e then Nat.lor (Nat.lor (2 ^ e.on) ((ms[e.on]?).getD 0)) (Zdn ms r) else Zdn ms r
def masksGo : List Oper → List Nat → List Nat
 | [],ms => ms
 | o :: r,ms => masksGo r (ms ++ [Zdn ms o.after.toList])
def Zbj (l : List Oper) : List Nat := masksGo l []
def mk (ms : List Nat) (i : Nat) : Nat := (ms[i]?).getD 0
def findW (t i : Nat) : List Oper → Nat → Option Nat
 | [],_ => none
 | o :: r,k => match o.dst with
  | some d => bif Nat.beq d t && !Nat.beq k i then some k else findW t i r (k + 1)
  | none => findW t i r (k + 1)
def Zch : List Oper → Bool
 | [] => true
 | o :: r => (match o.dst with | none => true | some d => r.all (fun o' => match o'.dst with | some d' => !Nat.beq d d' | none => true)) && Zch r
inductive Src where
 | op (k : Nat)
 | env
def srcAt (l : List Oper) (ms : List Nat) (i t : Nat) : Option Src :=
 match findW t i l 0 with
 | none => some .env
 | some k => bif bit (mk ms i) k then some (.op k) else bif bit (mk ms k) i then some .env else none
def mkEnv (l : List Oper) (ms : List Nat) (i : Nat) (e0 : Envs) (ents : List Ent) : List Nat → Option Envs
 | [] => some .nil
 | t :: r => match mkEnv l ms i e0 ents r with
  | none => none
  | some e => bif Nat.blt t top then (match srcAt l ms i t with
   | some (.op k) => match ents[k]? with | some x => some (e.set t x.v) | none => none
   | some .env => match e0.get t with | some v => some (e.set t v) | none => none
   | none => none) else none
def tmpOf : Operand → Option Nat
 | .tmp t => some t
 | _ => none
def Zes (op : Op) : List Nat := op.operands.toList.filterMap tmpOf
def Zen (l : List Oper) (ms : List Nat) (ents : List Ent) (i : Nat) : Option (Nat × Bool) → Option Bool
 | none => some true
 | some (j,b) => bif bit (mk ms i) j then (match l[j]? with
  | some o => match o.dst with
   | some _ => match ents[j]? with
    | some x => match x.v with
     | .b c => some (c == b)
     | .tup [] => some false
     | _ => none
    | none => none
   | none => none
  | none => none) else none
def Zct (base : Nat) (p : Nat → Bool) : List Ent → Nat → List (Nat × SO)
 | [],_ => []
 | x :: r,k => match x.kd with
  | .alloc ob _ => (bif p k then [(base + k,ob)] else []) ++ Zct base p r (k + 1)
  | _ => Zct base p r (k + 1)
def addP (base : Nat) (p : Nat → Bool) : List Ent → Nat → Heap → Option Heap
 | [],_,h => some h
 | x :: r,k,h => match x.kd with
  | .alloc ob _ => bif p k then (bif Nat.blt (base + k) top then (match h.get (base + k) with | none => addP base p r (k + 1) (h.set (base + k) ob) | some _ => none) else none) else addP base p r (k + 1) h
  | _ => addP base p r (k + 1) h
def seen (m a : Nat) (k : Nat) : Bool := bit m k && !bit a k
def DSt.add (st : DSt) (x : Ent) : DSt := { st with ents := st.ents ++ [x] }
section
variable (Γ : Ctx) (rec : Job → Option Rs)
def drawOp (l : List Oper) (ms : List Nat) (base : Nat) (e0 : Envs) (i : Nat) (o : Oper) (st : DSt) : Option DSt :=
 bif Nat.blt (mk ms i) (2 ^ i) then
  match Zen l ms st.ents i o.guard with
  | none => none
  | some false => match o.dst with | some _ => some (st.add ⟨Zfr,.soft⟩) | none => none
  | some true => match mkEnv l ms i e0 st.ents (Zes o.op) with
   | none => none
   | some e => match Zd0 Γ e o.op with
    | some v => some (st.add ⟨v,.soft⟩)
    | none => match allocOp Γ e o.op with
     | some (ob,mk) => match o.dst with | some _ => some (st.add ⟨mk.at (base + i),.alloc ob mk⟩) | none => none
     | none => match addP base (seen (mk ms i) st.abs) st.ents 0 st.cur.h with
      | none => none
      | some h => match Zft Γ e h o.op with
       | some v => some (st.add ⟨v,.read⟩)
       | none => bif st.mains.all (bit (mk ms i)) then (match heavy Γ rec e ⟨h,st.cur.n⟩ o.op with
        | some (v,m) => some { ents := st.ents ++ [⟨v,.main⟩],mems := st.mems ++ [(Nat.lor st.abs (mk ms i),m)],mains := st.mains ++ [i],abs := Nat.lor st.abs (mk ms i),cur := m }
        | none => none) else none
 else none
def Zed (l : List Oper) (ms : List Nat) (base : Nat) (e0 : Envs) : List Oper → Nat → DSt → Option DSt
 | [],_,st => some st
 | o :: r,i,st => match drawOp Γ rec l ms base e0 i o st with
  | some st => Zed l ms base e0 r (i + 1) st
  | none => none
end
mutual
def sveq : SV → SV → Bool
 | .b x,.b y => x == y
 | .i k n,.i k' n' => ikeq k k' && ieq n n'
 | .s a,.s b => leq a b
 | .p0,.p0 => true
 | .p o f,.p o' f' => Nat.beq o o' && Nat.beq f f'
 | .pg o f,.pg o' f' => Nat.beq o o' && Nat.beq f f'
 | .sl0,.sl0 => true
 | .sl o a b c,.sl o' a' b' c' => Nat.beq o o' && Nat.beq a a' && Nat.beq b b' && Nat.beq c c'
 | .slu o a b c,.slu o' a' b' c' => Nat.beq o o' && Nat.beq a a' && Nat.beq b b' && Nat.beq c c'
 | .sle,.sle => true
 | .m0,.m0 => true
 | .m o,.m o' => Nat.beq o o'
 | .f0,.f0 => true
 | .ifc t v,.ifc t' v' => Nat.beq t t' && sveq v v'
 | .ifc0,.ifc0 => true
 | .agg a,.agg b => sveqs a b
 | .tup a,.tup b => sveqs a b
 | _,_ => false
def sveqs : List SV → List SV → Bool
 | [],[] => true
 | a :: r,b :: s => sveq a b && sveqs r s
 | _,_ => false
end
def compat (ms mains : List Nat) (i j : Nat) : Bool :=
 (mains.take j).all (fun x => !bit (mk ms x) i) && (mains.drop j).all (fun x => !bit (mk ms i) x)
def readAt (Γ : Ctx) (base : Nat) (ents : List Ent) (mask : Nat) (e : Envs) (op : Op) (v : SV) (q : Nat × Mem) : Bool :=
 match addP base (seen mask q.1) ents 0 q.2.h with
 | some h => match Zft Γ e h op with
  | some v' => sveq v' v
  | none => false
 | none => false
def readAll (Γ : Ctx) (ms : List Nat) (base : Nat) (st : DSt) (i : Nat) (e : Envs) (op : Op) (v : SV) : List (Nat × Mem) → Nat → Bool
 | [],_ => true
 | q :: r,j => (bif compat ms st.mains i j then readAt Γ base st.ents (mk ms i) e op v q else true) && readAll Γ ms base st i e op v r (j + 1)
def readsOk (Γ : Ctx) (l : List Oper) (ms : List Nat) (base : Nat) (e0 : Envs) (st : DSt) : List Oper → List Ent → Nat → Bool
 | o :: r,x :: xs,i => (match x.kd with
  | .read => match mkEnv l ms i e0 st.ents (Zes o.op) with
   | some e => readAll Γ ms base st i e o.op x.v st.mems 0
   | none => false
  | _ => true) && readsOk Γ l ms base e0 st r xs (i + 1)
 | _,_,_ => true
def Zdk : List Oper → List Ent → Envs → Envs
 | o :: r,x :: xs,e => Zdk r xs (putE o.dst x.v e)
 | _,_,e => e
def drawEval (Γ : Ctx) (rec : Job → Option Rs) (l : List Oper) (e0 : Envs) (m0 : Mem) : Option (Envs × Mem) :=
 bif Nat.ble (m0.n + l.length) top then
  match Zed Γ rec l (Zbj l) m0.n e0 l 0 ⟨[],[(0,⟨m0.h,m0.n + l.length⟩)],[],0,⟨m0.h,m0.n + l.length⟩⟩ with
  | some st => bif readsOk Γ l (Zbj l) m0.n e0 st l st.ents 0 then
    (match addP m0.n (fun k => !bit st.abs k) st.ents 0 st.cur.h with
    | some h => some (Zdk l st.ents e0,⟨h,st.cur.n⟩)
    | none => none) else none
  | none => none
 else none

mutual
theorem sveq_ok : ∀ (a b : SV),sveq a b = true → a = b
 | .b x,b,h => by cases b <;> simp [sveq] at h; subst h; rfl
 | .i k n,b,h => by
  cases b <;> simp [sveq,ieq_ok] at h
  obtain ⟨h1,rfl⟩ := h; rw [ikeq_ok h1]
 | .s l,b,h => by cases b <;> simp [sveq,leq_ok] at h; subst h; rfl
 | .p0,b,h => by cases b <;> simp [sveq] at h; rfl
 | .p o f,b,h => by cases b <;> simp [sveq,nbeq] at h; obtain ⟨rfl,rfl⟩ := h; rfl
 | .pg o f,b,h => by cases b <;> simp [sveq,nbeq] at h; obtain ⟨rfl,rfl⟩ := h; rfl
 | .sl0,b,h => by cases b <;> simp [sveq] at h; rfl
 | .sl ..,b,h => by cases b <;> simp [sveq,nbeq] at h; obtain ⟨⟨⟨rfl,rfl⟩,rfl⟩,rfl⟩ := h; rfl
 | .slu ..,b,h => by cases b <;> simp [sveq,nbeq] at h; obtain ⟨⟨⟨rfl,rfl⟩,rfl⟩,rfl⟩ := h; rfl
 | .sle,b,h => by cases b <;> simp [sveq] at h; rfl
 | .m0,b,h => by cases b <;> simp [sveq] at h; rfl
 | .m o,b,h => by cases b <;> simp [sveq,nbeq] at h; subst h; rfl
 | .fn ..,b,h => by cases b <;> simp [sveq] at h
 | .f0,b,h => by cases b <;> simp [sveq] at h; rfl
 | .ifc t v,b,h => by
  cases b <;> simp [sveq,nbeq] at h
  obtain ⟨rfl,h⟩ := h; rw [sveq_ok v _ h]
 | .ifc0,b,h => by cases b <;> simp [sveq] at h; rfl
 | .agg l,b,h => by cases b <;> simp [sveq] at h; rw [sveqs_ok l _ h]
 | .tup l,b,h => by cases b <;> simp [sveq] at h; rw [sveqs_ok l _ h]
theorem sveqs_ok : ∀ (a b : List SV),sveqs a b = true → a = b
 | [],b,h => by cases b <;> simp [sveqs] at h; rfl
 | a :: r,b,h => by
  cases b <;> simp [sveqs] at h
  obtain ⟨h1,h2⟩ := h
  rw [sveq_ok a _ h1,sveqs_ok r _ h2]
end

/-! ### what waits for what -/
theorem masksGo_spec : ∀ (r : List Oper) (ms : List Nat),∃ t,masksGo r ms = ms ++ t ∧ t.length = r.length ∧ ∀ (i : Nat) (o : Oper),r[i]? = some o → t[i]? = some (Zdn (ms ++ t.take i) o.after.toList)
 | [],ms => ⟨[],by simp [masksGo],rfl,fun i o h => by simp at h⟩
 | o :: r,ms => by
  obtain ⟨t,h1,h2,h3⟩ := masksGo_spec r (ms ++ [Zdn ms o.after.toList])
  refine ⟨Zdn ms o.after.toList :: t,by simp [masksGo,h1],by simp [h2],fun i o' h => ?_⟩
  cases i with
  | zero => simp at h; subst h; simp
  | succ i =>
   have := h3 i o' (by simpa using h)
   simpa using this
theorem masks_spec (l : List Oper) : (Zbj l).length = l.length ∧ ∀ (i : Nat) (o : Oper),l[i]? = some o → (Zbj l)[i]? = some (Zdn ((Zbj l).take i) o.after.toList) := by
 obtain ⟨t,h1,h2,h3⟩ := masksGo_spec l []
 have : Zbj l = t := by simpa [Zbj] using h1
 rw [this]
 exact ⟨h2,fun i o h => by simpa using h3 i o h⟩
theorem bit_lor (a b k : Nat) : bit (Nat.lor a b) k = (bit a k || bit b k) := Nat.testBit_or a b k
theorem edge_bit {ms : List Nat} : ∀ {es : List Edge} {k : Nat},bit (Zdn ms es) k = true → ∃ e ∈ es,Region.binds .any e = true ∧ (e.on = k ∨ bit ((ms[e.on]?).getD 0) k = true)
 | [],k,h => by simp [Zdn,bit] at h
 | e :: r,k,h => by
  simp only [Zdn] at h
  cases hb : Region.binds .any e with
  | false =>
   rw [hb,cond_false] at h
   obtain ⟨e',h1,h2⟩ := edge_bit h
   exact ⟨e',List.mem_cons_of_mem _ h1,h2⟩
  | true =>
   rw [hb,cond_true,bit_lor,bit_lor] at h
   simp only [Bool.or_eq_true] at h
   rcases h with (h | h) | h
   ·refine ⟨e,List.mem_cons_self ..,hb,.inl ?_⟩
    simp only [bit,Nat.testBit_two_pow,decide_eq_true_eq] at h; exact h
   ·exact ⟨e,List.mem_cons_self ..,hb,.inr h⟩
   ·obtain ⟨e',h1,h2⟩ := edge_bit h
    exact ⟨e',List.mem_cons_of_mem _ h1,h2⟩
theorem bit_zero (k : Nat) : bit 0 k = false := by simp [bit]
theorem mask_listed {l : List Oper} {listed : Array Bool} (hc : Closed l.toArray listed) : ∀ (n i : Nat),i < n → ∀ o,l[i]? = some o → (∀ e ∈ o.after,Region.binds .any e = true → listed.getD e.on false = true) → ∀ k,bit (mk (Zbj l) i) k = true → listed.getD k false = true := by
 intro n
 induction n with
 | zero => intro i h; omega
 | succ n ih =>
  intro i hi o ho hall k hk
  have hm := (masks_spec l).2 i o ho
  rw [mk,hm,Option.getD_some] at hk
  obtain ⟨e,he,hb,h⟩ := edge_bit hk
  have hl := hall e (by simpa using he) hb
  rcases h with rfl | h
  ·exact hl
  ·rw [List.getElem?_take] at h
   split at h
   ·rename_i hlt
    have hlen : e.on < l.length := by
     rcases Nat.lt_or_ge e.on l.length with q | q
     ·exact q
     ·rw [List.getElem?_eq_none (by rw [(masks_spec l).1]; exact q),Option.getD_none,bit_zero] at h; cases h
    have ho' : l[e.on]? = some l[e.on] := List.getElem?_eq_getElem hlen
    exact ih e.on (by omega) _ ho' (fun e' he' hb' => hc e.on _ (by simp [ho']) hl e' he' hb') k h
   ·rw [Option.getD_none,bit_zero] at h; cases h
theorem mask_of_ready {l : List Oper} {listed : Array Bool} (hc : Closed l.toArray listed) {i : Nat} (hr : i ∈ Region.ready .any l.toArray listed) {k : Nat} (hk : bit (mk (Zbj l) i) k = true) : listed.getD k false = true := by
 obtain ⟨_,o,ho,hall⟩ := mem_ready.1 hr
 exact mask_listed hc (i + 1) i (Nat.lt_succ_self _) o (by simpa using ho) hall k hk
theorem mask_of_listed {l : List Oper} {listed : Array Bool} (hc : Closed l.toArray listed) {i : Nat} {o : Oper} (ho : l[i]? = some o) (hl : listed.getD i false = true) {k : Nat} (hk : bit (mk (Zbj l) i) k = true) : listed.getD k false = true :=
 mask_listed hc (i + 1) i (Nat.lt_succ_self _) o ho (fun e he hb => hc i o (by simpa using ho) hl e he hb) k hk

/-! ### who writes a slot -/
theorem findW_none {t i : Nat} : ∀ {l : List Oper} {n : Nat},findW t i l n = none → ∀ (k : Nat) (o : Oper),l[k]? = some o → n + k ≠ i → o.dst ≠ some t
 | [],n,h,k,o,ho,_ => by simp at ho
 | x :: r,n,h,k,o,ho,hk => by
  simp only [findW] at h
  cases k with
  | zero =>
   simp at ho; subst ho
   intro hd
   rw [hd] at h
   simp only [nbeq,decide_true,Bool.true_and] at h
   rw [show decide (n = i) = false from decide_eq_false (by simpa using hk)] at h
   simp at h
  | succ k =>
   refine findW_none (t := t) (i := i) (n := n + 1) ?_ k o (by simpa using ho) (by omega)
   split at h
   ·exact (none_of_cond h)
   ·exact h
where
 none_of_cond {α : Type} {b : Bool} {x : α} {y : Option α} (h : (bif b then some x else y) = none) : y = none := by
  cases b
  ·exact h
  ·cases h
theorem findW_some {t i : Nat} : ∀ {l : List Oper} {n k : Nat},findW t i l n = some k → ∃ o,l[k - n]? = some o ∧ n ≤ k ∧ o.dst = some t ∧ k ≠ i
 | [],n,k,h => by cases h
 | x :: r,n,k,h => by
  simp only [findW] at h
  have next : findW t i r (n + 1) = some k → ∃ o,(x :: r)[k - n]? = some o ∧ n ≤ k ∧ o.dst = some t ∧ k ≠ i := fun h => by
   obtain ⟨o,h1,h2,h3,h4⟩ := findW_some h
   refine ⟨o,?_,by omega,h3,h4⟩
   rw [show k - n = (k - (n + 1)) + 1 by omega]; simpa using h1
  split at h
  ·rename_i d hd
   rcases Zb9 h with ⟨hb,h⟩ | ⟨_,h⟩
   ·cases h
    simp only [nbeq,Bool.and_eq_true,decide_eq_true_eq,Bool.not_eq_true',decide_eq_false_iff_not] at hb
    exact ⟨x,by simp,Nat.le_refl _,by rw [hd,hb.1],hb.2⟩
   ·exact next h
  ·exact next h
theorem Zfb : ∀ {l : List Oper},Zch l = true → ∀ (i j : Nat) (oi oj : Oper) (d : Nat),l[i]? = some oi → l[j]? = some oj → oi.dst = some d → oj.dst = some d → i = j
 | [],_,i,_,_,_,_,h,_,_,_ => by simp at h
 | x :: r,h,i,j,oi,oj,d,hi,hj,di,dj => by
  simp only [Zch,Bool.and_eq_true] at h
  have key : ∀ (k : Nat) (o : Oper),r[k]? = some o → x.dst = some d → o.dst ≠ some d := fun k o ho hx hd => by
   have h1 := h.1
   rw [hx] at h1
   have := List.all_eq_true.1 h1 o (List.mem_of_getElem? ho)
   rw [hd] at this
   simp at this
  cases i with
  | zero => cases j with
   | zero => rfl
   | succ j => simp at hi hj; subst hi; exact absurd dj (key j oj hj di)
  | succ i => cases j with
   | zero => simp at hi hj; subst hj; exact absurd di (key i oi hi dj)
   | succ j => rw [Zfb h.2 i j oi oj d (by simpa using hi) (by simpa using hj) di dj]
section
variable {Ω : Opq}
structure EnvD (l : List Oper) (ents : List Ent) (e0 : Envs) (S : Nat → Prop) (ρ : Rho) (σ : Env) : Prop where
 done : ∀ (k : Nat) (o : Oper) (x : Ent) (d : Nat),S k → l[k]? = some o → o.dst = some d → ents[k]? = some x → ∃ u,Rep ρ x.v u ∧ look σ d = some u
 old : ∀ (t : Nat) (s : SV),e0.get t = some s → (∀ (k : Nat) (o : Oper),S k → l[k]? = some o → o.dst ≠ some t) → ∃ u,Rep ρ s u ∧ look σ t = some u
theorem EnvD.mono {l : List Oper} {ents : List Ent} {e0 : Envs} {S : Nat → Prop} {ρ ρ' : Rho} {σ : Env} (h : EnvD l ents e0 S ρ σ) (hle : ρ.le ρ') : EnvD l ents e0 S ρ' σ :=
  ⟨fun k o x d h1 h2 h3 h4 => by obtain ⟨u,q1,q2⟩ := h.done k o x d h1 h2 h3 h4; exact ⟨u,Rep.mono hle _ _ q1,q2⟩,
   fun t s h1 h2 => by obtain ⟨u,q1,q2⟩ := h.old t s h1 h2; exact ⟨u,Rep.mono hle _ _ q1,q2⟩⟩
theorem EnvD.add {l : List Oper} {ents : List Ent} {e0 : Envs} {S S' : Nat → Prop} {ρ : Rho} {σ : Env} (h : EnvD l ents e0 S ρ σ) (hd : Zch l = true) {i : Nat} {o : Oper} {x : Ent} (ho : l[i]? = some o) (hx : ents[i]? = some x) (hS : ∀ k,S' k ↔ S k ∨ k = i) {u : Value} (hu : Rep ρ x.v u) :
  EnvD l ents e0 S' ρ (putV o.dst u σ) := by
 refine ⟨fun k o' x' d h1 h2 h3 h4 => ?_,fun t s h1 h2 => ?_⟩
 ·by_cases hki : k = i
  ·subst hki
   rw [ho] at h2; cases h2
   rw [hx] at h4; cases h4
   exact ⟨u,hu,by rw [h3]; exact Zc6 _ _ _⟩
  ·have hk : S k := ((hS k).1 h1).resolve_right hki
   obtain ⟨u',q1,q2⟩ := h.done k o' x' d hk h2 h3 h4
   refine ⟨u',q1,?_⟩
   cases hod : o.dst with
   | none => exact q2
   | some d' =>
    have : d' ≠ d := fun e => by subst e; exact hki (Zfb hd k i o' o d' h2 ho h3 hod)
    show look ((d',u) :: σ) d = _
    rw [Zdd _ _ this]; exact q2
 ·obtain ⟨u',q1,q2⟩ := h.old t s h1 fun k o' hk ho' => h2 k o' ((hS k).2 (.inl hk)) ho'
  refine ⟨u',q1,?_⟩
  cases hod : o.dst with
  | none => exact q2
  | some d' =>
   have : d' ≠ t := fun e => by subst e; exact h2 i o ((hS i).2 (.inr rfl)) ho hod
   show look ((d',u) :: σ) t = _
   rw [Zdd _ _ this]; exact q2
theorem mkEnv_ok {l : List Oper} {ents ents' : List Ent} {e0 : Envs} {S : Nat → Prop} {ρ : Rho} {σ : Env} (H : EnvD l ents' e0 S ρ σ) (hpre : ∀ (k : Nat) (x : Ent),ents[k]? = some x → ents'[k]? = some x) (hd : Zch l = true) {i : Nat} (hi : ¬ S i) (hmask : ∀ k,bit (mk (Zbj l) i) k = true → S k)
  (hcl : ∀ (k : Nat) (o : Oper),l[k]? = some o → S k → ∀ j,bit (mk (Zbj l) k) j = true → S j) : ∀ (ts : List Nat) (e : Envs),mkEnv l (Zbj l) i e0 ents ts = some e → EnvR ρ e σ
 | [],e,h => by
  simp only [mkEnv,Option.some.injEq] at h; subst h
  intro n s hs; rw [Envs.get_nil] at hs; cases hs
 | t :: r,e,h => by
  simp only [mkEnv] at h
  split at h
  ·cases h
  ·rename_i e1 he1
   replace h := Zas h; obtain ⟨ht,h⟩ := h
   have ht := Zcr ht
   have ih := mkEnv_ok H hpre hd hi hmask hcl r e1 he1
   have setR : ∀ (s : SV) (u : Value),Rep ρ s u → look σ t = some u → EnvR ρ (e1.set t s) σ := fun s u hu hl n s' hs => by
    rw [Envs.get_set s n ht] at hs
    split at hs
    ·rename_i en; subst en; cases hs; exact ⟨u,hu,hl⟩
    ·exact ih n s' hs
   split at h
   ·rename_i k hsrc
    split at h
    ·rename_i x hx
     cases h
     unfold srcAt at hsrc
     split at hsrc
     ·cases hsrc
     ·rename_i k' hw
      rcases Zb9 hsrc with ⟨hb,hsrc⟩ | ⟨_,hsrc⟩
      ·cases hsrc
       obtain ⟨o,q1,_,q2,_⟩ := findW_some hw
       obtain ⟨u,hu,hl⟩ := H.done k o x t (hmask k hb) (by simpa using q1) q2 (hpre k x hx)
       exact setR _ u hu hl
      ·replace hsrc := Zas hsrc; cases hsrc.2
    ·cases h
   ·rename_i hsrc
    split at h
    ·rename_i v hv
     cases h
     have hno : ∀ (k : Nat) (o : Oper),S k → l[k]? = some o → o.dst ≠ some t := by
      intro k o hk ho hdo
      have hki : k ≠ i := fun q => by subst q; exact hi hk
      unfold srcAt at hsrc
      split at hsrc
      ·rename_i hw
       exact findW_none hw k o ho (by simpa using hki) hdo
      ·rename_i k' hw
       obtain ⟨o',q1,_,q2,_⟩ := findW_some hw
       have : k = k' := Zfb hd k k' o o' t ho (by simpa using q1) hdo q2
       subst this
       rcases Zb9 hsrc with ⟨_,hsrc⟩ | ⟨_,hsrc⟩
       ·cases hsrc
       ·replace hsrc := Zas hsrc; obtain ⟨hb,_⟩ := hsrc
        exact hi (hcl k o ho hk i hb)
     obtain ⟨u,hu,hl⟩ := H.old t v hv hno
     exact setR _ u hu hl
    ·cases h
   ·cases h

/-! ### the objects that operations made -/
theorem privs_perm (base : Nat) (p q : Nat → Bool) : ∀ (ents : List Ent) (k : Nat),(Zct base p ents k).Perm (Zct base (fun n => p n && q n) ents k ++ Zct base (fun n => p n && !q n) ents k)
 | [],k => .refl _
 | x :: r,k => by
  simp only [Zct]
  have ih := privs_perm base p q r (k + 1)
  cases x.kd with
  | alloc ob mk =>
   simp only
   cases hp : p k <;> cases hq : q k <;> simp only [Bool.false_and,Bool.true_and,Bool.not_false,Bool.not_true,cond_true,cond_false,List.nil_append]
   ·exact ih
   ·exact ih
   ·exact (List.Perm.cons _ ih).trans List.perm_middle.symm
   ·exact List.Perm.cons _ ih
  | _ => exact ih
theorem Ze4 (base : Nat) {p q : Nat → Bool} : ∀ (ents : List Ent) (k : Nat),(∀ (n : Nat) (x : Ent) ob mk,ents[n]? = some x → x.kd = .alloc ob mk → p (k + n) = q (k + n)) → Zct base p ents k = Zct base q ents k
 | [],k,_ => rfl
 | x :: r,k,h => by
  simp only [Zct]
  have ih := Ze4 base (p := p) (q := q) r (k + 1) fun n y ob mk hy hk => by
   have := h (n + 1) y ob mk (by simpa using hy) hk
   rw [show k + 1 + n = k + (n + 1) by omega]; exact this
  cases hk : x.kd with
  | alloc ob mk =>
   have := h 0 x ob mk rfl hk
   simp only [Nat.add_zero] at this
   simp only [this,ih]
  | _ => exact ih
theorem privs_append (base : Nat) (p : Nat → Bool) : ∀ (a b : List Ent) (k : Nat),Zct base p (a ++ b) k = Zct base p a k ++ Zct base p b (k + a.length)
 | [],b,k => by simp [Zct]
 | x :: a,b,k => by
  simp only [List.cons_append,Zct]
  have ih := privs_append base p a b (k + 1)
  rw [show k + 1 + a.length = k + (x :: a).length by simp; omega] at ih
  cases x.kd <;> simp [ih]
theorem privs_none (base : Nat) {p : Nat → Bool} : ∀ (ents : List Ent) (k : Nat),(∀ n,p (k + n) = false) → Zct base p ents k = []
 | [],k,_ => rfl
 | x :: r,k,h => by
  have ih := privs_none base (p := p) r (k + 1) fun n => by rw [show k + 1 + n = k + (n + 1) by omega]; exact h (n + 1)
  have h0 := h 0
  simp only [Nat.add_zero] at h0
  simp only [Zct,h0]
  cases x.kd <;> simp [ih]
theorem addP_perm {base : Nat} {p : Nat → Bool} : ∀ {ents : List Ent} {k : Nat} {h h' : Heap},addP base p ents k h = some h' → h'.toList.Perm (Zct base p ents k ++ h.toList)
 | [],k,h,h',e => by
  have e2 : h = h' := Option.some.inj e
  subst e2
  exact List.Perm.of_eq (List.nil_append _).symm
 | x :: r,k,h,h',e => by
  simp only [addP] at e
  simp only [Zct]
  split at e
  ·rename_i ob mk hk
   rcases Zb9 e with ⟨hp,e⟩ | ⟨hp,e⟩
   ·replace e := Zas e; obtain ⟨ht,e⟩ := e
    split at e
    ·rename_i hg
     have ih := addP_perm e
     rw [hp,cond_true]
     refine ih.trans ((List.Perm.append_left _ (Heap.set_new ob (Zcr ht) hg)).trans ?_)
     exact List.perm_middle
    ·cases e
   ·rw [hp,cond_false,List.nil_append]
    exact addP_perm e
  ·exact addP_perm e
end
end
end Cr.Cl
namespace Cr.Cl
open Go Go.MapKept
set_option maxRecDepth 4000
structure DSt.le (a b : DSt) : Prop where
 ents : ∃ t,b.ents = a.ents ++ t
 mems : ∃ t,b.mems = a.mems ++ t
 mains : ∃ t,b.mains = a.mains ++ t
theorem DSt.le.rfl {a : DSt} : a.le a := ⟨⟨[],by simp⟩,⟨[],by simp⟩,⟨[],by simp⟩⟩
theorem DSt.le.trans {a b c : DSt} (h : a.le b) (h' : b.le c) : a.le c := by
 obtain ⟨⟨t1,e1⟩,⟨t2,e2⟩,⟨t3,e3⟩⟩ := h
 obtain ⟨⟨u1,f1⟩,⟨u2,f2⟩,⟨u3,f3⟩⟩ := h'
 exact ⟨⟨t1 ++ u1,by rw [f1,e1,List.append_assoc]⟩,⟨t2 ++ u2,by rw [f2,e2,List.append_assoc]⟩,⟨t3 ++ u3,by rw [f3,e3,List.append_assoc]⟩⟩
theorem Zdi {α : Type} {a b : List α} (h : ∃ t,b = a ++ t) {k : Nat} {x : α} (hk : a[k]? = some x) : b[k]? = some x := by
 obtain ⟨t,rfl⟩ := h
 rw [List.getElem?_append_left (List.getElem?_eq_some_iff.1 hk).1]; exact hk
structure Wf (ms : List Nat) (st : DSt) : Prop where
 len : st.mems.length = st.mains.length + 1
 cur : st.mems[st.mains.length]? = some (st.abs,st.cur)
 main : ∀ (k y : Nat),st.mains[k]? = some y → ∃ x,st.ents[y]? = some x ∧ x.kd = .main
 inc : ∀ (k k' y y' : Nat),k < k' → st.mains[k]? = some y → st.mains[k']? = some y' → y < y'
 abs : ∀ (j a : Nat) (m : Mem),st.mems[j]? = some (a,m) → ∀ k,bit a k = true → ∃ k' y,k' < j ∧ st.mains[k']? = some y ∧ bit (mk ms y) k = true
inductive FactD (Γ : Ctx) (rec : Job → Option Rs) (l : List Oper) (base : Nat) (e0 : Envs) (st : DSt) (i : Nat) (o : Oper) (x : Ent) : Prop where
 | skip (pre : List Ent) (hp : ∃ t,st.ents = pre ++ t) (hw : Zen l (Zbj l) pre i o.guard = some false) (hx : x = ⟨Zfr,.soft⟩)
 | soft (pre : List Ent) (hp : ∃ t,st.ents = pre ++ t) (hw : Zen l (Zbj l) pre i o.guard = some true) (e : Envs) (he : mkEnv l (Zbj l) i e0 pre (Zes o.op) = some e) (hk : x.kd = .soft) (h : Zd0 Γ e o.op = some x.v)
 | alloc (pre : List Ent) (hp : ∃ t,st.ents = pre ++ t) (hw : Zen l (Zbj l) pre i o.guard = some true) (e : Envs) (he : mkEnv l (Zbj l) i e0 pre (Zes o.op) = some e) (ob : SO) (mk : Mk) (hk : x.kd = .alloc ob mk) (h : allocOp Γ e o.op = some (ob,mk)) (hv : x.v = mk.at (base + i)) (hd : o.dst ≠ none)
 | read (pre : List Ent) (hp : ∃ t,st.ents = pre ++ t) (hw : Zen l (Zbj l) pre i o.guard = some true) (hk : x.kd = .read)
 | main (pre : List Ent) (hp : ∃ t,st.ents = pre ++ t) (hw : Zen l (Zbj l) pre i o.guard = some true) (e : Envs) (he : mkEnv l (Zbj l) i e0 pre (Zes o.op) = some e) (hk : x.kd = .main) (k abs : Nat) (m m' : Mem) (h' : Heap) (hlen : pre.length = i)
   (h1 : st.mains[k]? = some i) (h2 : st.mems[k]? = some (abs,m)) (h3 : st.mems[k + 1]? = some (Nat.lor abs (mk (Zbj l) i),m')) (h4 : ∀ k' y,k' < k → st.mains[k']? = some y → bit (mk (Zbj l) i) y = true) (h5 : addP base (seen (mk (Zbj l) i) abs) pre 0 m.h = some h') (h6 : heavy Γ rec e ⟨h',m.n⟩ o.op = some (x.v,m'))
section
variable {Γ : Ctx} {rec : Job → Option Rs} {l : List Oper} {base : Nat} {e0 : Envs}
theorem Wf.addE {ms : List Nat} {st : DSt} (h : Wf ms st) (x : Ent) : Wf ms (st.add x) :=
 ⟨h.len,h.cur,fun k y hk => by obtain ⟨z,h1,h2⟩ := h.main k y hk; exact ⟨z,Zdi ⟨[x],rfl⟩ h1,h2⟩,h.inc,h.abs⟩
theorem drawOp_ok {i : Nat} {o : Oper} {st st1 : DSt} (h : drawOp Γ rec l (Zbj l) base e0 i o st = some st1) (hl : st.ents.length = i) (hwf : Wf (Zbj l) st) :
  mk (Zbj l) i < 2 ^ i ∧ st.le st1 ∧ Wf (Zbj l) st1 ∧ st1.ents.length = i + 1 ∧ ∃ x,st1.ents[i]? = some x ∧ ∀ st',st1.le st' → FactD Γ rec l base e0 st' i o x := by
 unfold drawOp at h
 replace h := Zas h; obtain ⟨hm,h⟩ := h
 have hm := Zcr hm
 refine ⟨hm,?_⟩
 have soft : ∀ x : Ent,st1 = st.add x → (∀ st',st1.le st' → FactD Γ rec l base e0 st' i o x) → st.le st1 ∧ Wf (Zbj l) st1 ∧ st1.ents.length = i + 1 ∧ ∃ x,st1.ents[i]? = some x ∧ ∀ st',st1.le st' → FactD Γ rec l base e0 st' i o x := by
  rintro x rfl hf
  exact ⟨⟨⟨[x],rfl⟩,⟨[],by simp [DSt.add]⟩,⟨[],by simp [DSt.add]⟩⟩,hwf.addE x,by simp [DSt.add,hl],x,by simp [DSt.add,← hl],hf⟩
 have pre : ∀ {x : Ent} {st' : DSt},(st.add x).le st' → ∃ t,st'.ents = st.ents ++ t := fun {x st'} hle => by
  obtain ⟨t,ht⟩ := hle.ents
  exact ⟨[x] ++ t,by rw [ht]; simp [DSt.add]⟩
 split at h
 ·cases h
 ·rename_i hw
  split at h
  ·rename_i d hd
   cases h
   exact soft _ rfl fun st' hle => .skip st.ents (pre hle) hw rfl
  ·cases h
 ·rename_i hw
  split at h
  ·cases h
  ·rename_i e he
   split at h
   ·rename_i v hv
    cases h
    exact soft _ rfl fun st' hle => .soft st.ents (pre hle) hw e he rfl hv
   ·split at h
    ·rename_i ob mk' hal
     split at h
     ·rename_i d hd
      cases h
      exact soft _ rfl fun st' hle => .alloc st.ents (pre hle) hw e he ob mk' rfl hal rfl (by rw [hd]; simp)
     ·cases h
    ·split at h
     ·cases h
     ·rename_i h' hadd
      split at h
      ·rename_i v hv
       cases h
       exact soft _ rfl fun st' hle => .read st.ents (pre hle) hw rfl
      ·replace h := Zas h; obtain ⟨hall,h⟩ := h
       split at h
       ·rename_i v m' hh
        cases h
        refine ⟨⟨⟨_,rfl⟩,⟨_,rfl⟩,⟨_,rfl⟩⟩,⟨?_,?_,?_,?_,?_⟩,by simp [hl],⟨v,.main⟩,by simp [← hl],fun st' hle => ?_⟩
        ·simp [hwf.len]
        ·show (st.mems ++ [(Nat.lor st.abs (mk (Zbj l) i),m')])[(st.mains ++ [i]).length]? = _
         rw [List.length_append,List.length_singleton,← hwf.len]
         simp
        ·intro k y hk
         rcases Nat.lt_or_ge k st.mains.length with q | q
         ·rw [List.getElem?_append_left q] at hk
          obtain ⟨z,h1,h2⟩ := hwf.main k y hk
          exact ⟨z,Zdi ⟨_,rfl⟩ h1,h2⟩
         ·have hk' : (st.mains ++ [i])[k]? = some y := hk
          rw [List.getElem?_append_right q] at hk'
          have hk0 : k - st.mains.length = 0 := by
           rcases Nat.eq_zero_or_pos (k - st.mains.length) with q | q
           ·exact q
           ·rw [List.getElem?_eq_none (by simp; omega)] at hk'; cases hk'
          rw [hk0] at hk'
          simp at hk'
          subst hk'
          exact ⟨⟨v,.main⟩,by simp [← hl],rfl⟩
        ·intro k k' y y' hkk hy hy'
         have hlk : ∀ (k y : Nat),st.mains[k]? = some y → y < i := fun k y hk => by
          obtain ⟨z,h1,_⟩ := hwf.main k y hk
          have := (List.getElem?_eq_some_iff.1 h1).1
          omega
         have hy0 : (st.mains ++ [i])[k]? = some y := hy
         have hy1 : (st.mains ++ [i])[k']? = some y' := hy'
         have hk' : k' < (st.mains ++ [i]).length := (List.getElem?_eq_some_iff.1 hy1).1
         simp only [List.length_append,List.length_singleton] at hk'
         rw [List.getElem?_append_left (by omega)] at hy0
         rcases Nat.lt_or_ge k' st.mains.length with q | q
         ·rw [List.getElem?_append_left q] at hy1
          exact hwf.inc k k' y y' hkk hy0 hy1
         ·rw [List.getElem?_append_right q,show k' - st.mains.length = 0 by omega] at hy1
          simp at hy1; subst hy1
          exact hlk k y hy0
        ·intro j a m hj k hk
         have hj' : (st.mems ++ [(Nat.lor st.abs (mk (Zbj l) i),m')])[j]? = some (a,m) := hj
         rcases Nat.lt_or_ge j st.mems.length with q | q
         ·rw [List.getElem?_append_left q] at hj'
          obtain ⟨k',y,h1,h2,h3⟩ := hwf.abs j a m hj' k hk
          exact ⟨k',y,h1,Zdi ⟨_,rfl⟩ h2,h3⟩
         ·rw [List.getElem?_append_right q] at hj'
          have hk0 : j - st.mems.length = 0 := by
           rcases Nat.eq_zero_or_pos (j - st.mems.length) with q | q
           ·exact q
           ·rw [List.getElem?_eq_none (by simp; omega)] at hj'; cases hj'
          rw [hk0] at hj'
          simp at hj'
          obtain ⟨rfl,rfl⟩ := hj'
          have hjl : j = st.mems.length := by omega
          have hk : bit (Nat.lor st.abs (mk (Zbj l) i)) k = true := hk
          rw [bit_lor,Bool.or_eq_true] at hk
          rcases hk with hk | hk
          ·obtain ⟨k',y,h1,h2,h3⟩ := hwf.abs st.mains.length st.abs st.cur hwf.cur k hk
           exact ⟨k',y,by have := hwf.len; omega,Zdi ⟨_,rfl⟩ h2,h3⟩
          ·exact ⟨st.mains.length,i,by have := hwf.len; omega,by simp,hk⟩
        ·refine .main st.ents ?_ hw e he rfl st.mains.length st.abs st.cur m' h' hl ?_ ?_ ?_ ?_ hadd hh
         ·obtain ⟨t,ht⟩ := hle.ents
          exact ⟨[⟨v,.main⟩] ++ t,by rw [ht]; simp⟩
         ·exact Zdi hle.mains (by simp)
         ·refine Zdi hle.mems ?_
          show (st.mems ++ [(Nat.lor st.abs (mk (Zbj l) i),m')])[st.mains.length]? = _
          exact Zdi ⟨_,rfl⟩ hwf.cur
         ·refine Zdi hle.mems ?_
          show (st.mems ++ [(Nat.lor st.abs (mk (Zbj l) i),m')])[st.mains.length + 1]? = _
          rw [← hwf.len]; simp
         ·intro k' y hk' hy
          obtain ⟨t,ht⟩ := hle.mains
          have ht' : st'.mains = st.mains ++ ([i] ++ t) := by rw [ht]; simp
          rw [ht',List.getElem?_append_left hk'] at hy
          exact List.all_eq_true.1 hall y (List.mem_of_getElem? hy)
       ·cases h
theorem drawLoop_ok : ∀ (r : List Oper) (i : Nat) (st st' : DSt),Zed Γ rec l (Zbj l) base e0 r i st = some st' → st.ents.length = i → Wf (Zbj l) st →
  st.le st' ∧ Wf (Zbj l) st' ∧ st'.ents.length = i + r.length ∧ ∀ (k : Nat) (o : Oper),r[k]? = some o → mk (Zbj l) (i + k) < 2 ^ (i + k) ∧ ∃ x,st'.ents[i + k]? = some x ∧ FactD Γ rec l base e0 st' (i + k) o x
 | [],i,st,st',h,hl,hwf => by
  simp only [Zed,Option.some.injEq] at h; subst h
  exact ⟨.rfl,hwf,by simp [hl],fun k o hk => by simp at hk⟩
 | o :: r,i,st,st',h,hl,hwf => by
  simp only [Zed] at h
  split at h
  ·rename_i st1 h1
   obtain ⟨q0,q1,q2,q3,x,q4,q5⟩ := drawOp_ok h1 hl hwf
   obtain ⟨r1,r2,r3,r4⟩ := drawLoop_ok r (i + 1) st1 st' h q3 q2
   refine ⟨q1.trans r1,r2,by rw [r3]; simp; omega,fun k o' hk => ?_⟩
   cases k with
   | zero => simp at hk; subst hk; exact ⟨q0,x,Zdi r1.ents q4,q5 st' r1⟩
   | succ k =>
    have := r4 k o' (by simpa using hk)
    rw [show i + 1 + k = i + (k + 1) by omega] at this
    exact this
  ·cases h
end
end Cr.Cl
namespace Cr.Cl
open Go Go.MapKept
set_option maxRecDepth 4000
theorem getD_set {listed : Array Bool} {i : Nat} (hi : i < listed.size) (k : Nat) : (listed.setIfInBounds i true).getD k false = (listed.getD k false || decide (k = i)) := by
 by_cases h : k = i
 ·subst h
  simp [Array.getD,hi]
 ·have : i ≠ k := fun e => h e.symm
  rw [getD_set_ne false this]
  simp [h]
theorem bit_high {m i k : Nat} (h : m < 2 ^ i) (hk : i ≤ k) : bit m k = false := Nat.testBit_lt_two_pow (Nat.lt_of_lt_of_le h (Nat.pow_le_pow_right (by omega) hk))
section
variable {P : Program} {Γ : Ctx} {Ω : Opq} {N : Nat} {W : World} {F : Nat → Prop} {rs : List Res} {rec : Job → Option Rs} {l : List Oper} {base : Nat} {e0 : Envs} {st : DSt} {n0 : Nat} {ρ0 : Rho} {Gd : World → (Nat → Prop) → Prop}
def left (listed : Array Bool) (abs k : Nat) : Bool := listed.getD k false && !bit abs k
structure InvD (Ω : Opq) (W : World) (F : Nat → Prop) (rs : List Res) (N : Nat) (l : List Oper) (base : Nat) (e0 : Envs) (st : DSt) (n0 : Nat) (ρ0 : Rho) (listed : Array Bool) (j : Nat) (a : Act) (w : World) : Prop where
 size : listed.size = l.length
 closed : Closed l.toArray listed
 mains : ∀ (k y : Nat),st.mains[k]? = some y → (listed.getD y false = true ↔ k < j)
 run : ∃ ρ σ abs m,st.mems[j]? = some (abs,m) ∧ Fr σ N md0 a ∧ ρ0.ext n0 m.n ρ ∧ EnvD l st.ents e0 (fun k => listed.getD k false = true) ρ σ ∧ ρ.below m.n ∧
  (∀ (k : Nat) (x : Ent) ob mk,st.ents[k]? = some x → x.kd = .alloc ob mk → listed.getD k false = false → ρ (base + k) = none) ∧ m.n ≤ top ∧ base + l.length ≤ m.n ∧
  St W F (resL Ω ρ (Zct base (left listed abs) st.ents 0 ++ m.h.toList) ++ rs) w
theorem resL_append (ρ : Rho) (a b : List (Nat × SO)) : resL Ω ρ (a ++ b) = resL Ω ρ a ++ resL Ω ρ b := List.map_append ..
theorem mid {listed : Array Bool} {abs mask : Nat} {m : Heap} {h' : Heap} {ρ : Rho} {w : World} {pre : List Ent} (hS : St W F (resL Ω ρ (Zct base (left listed abs) st.ents 0 ++ m.toList) ++ rs) w)
  (hmask : ∀ k,bit mask k = true → listed.getD k false = true) (hp : ∃ t,st.ents = pre ++ t) (hz : ∀ k,pre.length ≤ k → bit mask k = false) (hadd : addP base (seen mask abs) pre 0 m = some h') :
  St W F (res Ω ρ h' ++ (resL Ω ρ (Zct base (left listed (Nat.lor abs mask)) st.ents 0) ++ rs)) w := by
 have h1 := privs_perm base (left listed abs) (bit mask) st.ents 0
 have e1 : Zct base (fun n => left listed abs n && bit mask n) st.ents 0 = Zct base (seen mask abs) pre 0 := by
  obtain ⟨t,ht⟩ := hp
  have : Zct base (fun n => left listed abs n && bit mask n) st.ents 0 = Zct base (seen mask abs) st.ents 0 := by
   congr 1
   funext k
   unfold left seen
   cases hb : bit mask k with
   | false => simp
   | true => simp [hmask k hb]
  rw [this,ht,privs_append,privs_none base t _ fun n => ?_,List.append_nil]
  unfold seen
  rw [hz _ (by omega)]; rfl
 have e2 : Zct base (fun n => left listed abs n && !bit mask n) st.ents 0 = Zct base (left listed (Nat.lor abs mask)) st.ents 0 := by
  congr 1
  funext k
  unfold left
  rw [bit_lor]
  cases listed.getD k false <;> cases bit abs k <;> cases bit mask k <;> rfl
 rw [e1,e2] at h1
 have h2 := addP_perm hadd
 have perm : (Zct base (left listed abs) st.ents 0 ++ m.toList).Perm (h'.toList ++ Zct base (left listed (Nat.lor abs mask)) st.ents 0) := by
  refine (h1.append_right _).trans ?_
  rw [List.append_assoc]
  refine (List.Perm.append_left _ List.perm_append_comm).trans ?_
  rw [← List.append_assoc]
  exact (h2.symm).append_right _
 have := St.permH perm hS
 rw [resL_append,List.append_assoc] at this
 exact this
theorem Zfq {S : Nat → Prop} {ρ : Rho} {σ : Env} (H : EnvD l st.ents e0 S ρ σ) {pre : List Ent} (hp : ∃ t,st.ents = pre ++ t) {i : Nat} {o : Oper} (hmask : ∀ k,bit (mk (Zbj l) i) k = true → S k) {b : Bool} (hw : Zen l (Zbj l) pre i o.guard = some b) {ds : Md} {a : Act} (ha : Fr σ N ds a) :
  Region.wanted o (yielded l.toArray a.tmps) = b := by
 unfold Zen at hw
 split at hw
 ·rename_i hg
  cases hw
  simp [Region.wanted,hg]
 ·rename_i j c hg
  replace hw := Zas hw; obtain ⟨hb,hw⟩ := hw
  split at hw
  ·rename_i oj hj
   split at hw
   ·rename_i d hd
    split at hw
    ·rename_i x hx
     obtain ⟨u,hu,hlk⟩ := H.done j oj x d (hmask j hb) hj hd (Zdi hp hx)
     split at hw
     ·rename_i c' hv
      rw [hv] at hu; cases hu
      cases hw
      exact Zeg hg (by simp [hj,hd]) hlk ha
     ·rename_i hv
      rw [hv] at hu
      obtain ⟨us,hus,rfl⟩ := hu
      cases hus
      cases hw
      exact wanted_undef hg (by simp [hj,hd]) hlk ha
     ·cases hw
    ·cases hw
   ·cases hw
  ·cases hw
theorem compat_all {ms mains : List Nat} {i j : Nat} (h1 : ∀ k y,k < j → mains[k]? = some y → bit (mk ms y) i = false) (h2 : ∀ k y,j ≤ k → mains[k]? = some y → bit (mk ms i) y = false) : compat ms mains i j = true := by
 unfold compat
 simp only [Bool.and_eq_true,List.all_eq_true]
 refine ⟨fun y hy => ?_,fun y hy => ?_⟩
 ·obtain ⟨k,hk⟩ := List.getElem?_of_mem hy
  rw [List.getElem?_take] at hk
  split at hk
  ·rename_i q; simp [h1 k y q hk]
  ·cases hk
 ·obtain ⟨k,hk⟩ := List.getElem?_of_mem hy
  rw [List.getElem?_drop] at hk
  simp [h2 (j + k) y (by omega) hk]
theorem readAll_ok {ms : List Nat} {i : Nat} {e : Envs} {op : Op} {v : SV} : ∀ (qs : List (Nat × Mem)) (j0 : Nat),readAll Γ ms base st i e op v qs j0 = true → ∀ (j : Nat) (q : Nat × Mem),qs[j]? = some q → compat ms st.mains i (j0 + j) = true → readAt Γ base st.ents (mk ms i) e op v q = true
 | [],_,_,j,q,hq,_ => by simp at hq
 | x :: r,j0,h,j,q,hq,hc => by
  simp only [readAll,Bool.and_eq_true] at h
  cases j with
  | zero =>
   simp at hq; subst hq
   simp only [Nat.add_zero] at hc
   rw [hc,cond_true] at h; exact h.1
  | succ j => exact readAll_ok r (j0 + 1) h.2 j q (by simpa using hq) (by rw [show j0 + 1 + j = j0 + (j + 1) by omega]; exact hc)
theorem readsOk_ok : ∀ (r : List Oper) (xs : List Ent) (i0 : Nat),readsOk Γ l (Zbj l) base e0 st r xs i0 = true → ∀ (i : Nat) (o : Oper) (x : Ent),r[i]? = some o → xs[i]? = some x → x.kd = .read →
  ∃ e,mkEnv l (Zbj l) (i0 + i) e0 st.ents (Zes o.op) = some e ∧ readAll Γ (Zbj l) base st (i0 + i) e o.op x.v st.mems 0 = true
 | [],_,_,_,i,o,x,ho,_,_ => by simp at ho
 | _ :: _,[],_,_,i,o,x,_,hx,_ => by simp at hx
 | a :: r,b :: xs,i0,h,i,o,x,ho,hx,hk => by
  simp only [readsOk,Bool.and_eq_true] at h
  cases i with
  | zero =>
   simp at ho hx; subst ho; subst hx
   have h1 := h.1
   rw [hk] at h1
   simp only at h1
   split at h1
   ·rename_i e he
    exact ⟨e,he,h1⟩
   ·cases h1
  | succ i =>
   have := readsOk_ok r xs (i0 + 1) h.2 i o x (by simpa using ho) (by simpa using hx) hk
   rw [show i0 + 1 + i = i0 + (i + 1) by omega] at this
   exact this
def ReadP (Γ : Ctx) (base : Nat) (ents : List Ent) (mask : Nat) (e : Envs) (op : Op) (v : SV) (q : Nat × Mem) : Prop := ∃ h,addP base (seen mask q.1) ents 0 q.2.h = some h ∧ Zft Γ e h op = some v
def ReadsP (Γ : Ctx) (l : List Oper) (base : Nat) (e0 : Envs) (st : DSt) : Prop := ∀ (i : Nat) (o : Oper) (x : Ent),l[i]? = some o → st.ents[i]? = some x → x.kd = .read →
 ∃ e,mkEnv l (Zbj l) i e0 st.ents (Zes o.op) = some e ∧ ∀ (j : Nat) (q : Nat × Mem),st.mems[j]? = some q → compat (Zbj l) st.mains i j = true → ReadP Γ base st.ents (mk (Zbj l) i) e o.op x.v q
theorem readsP_of (h : readsOk Γ l (Zbj l) base e0 st l st.ents 0 = true) : ReadsP Γ l base e0 st := fun i o x ho hx hk => by
 obtain ⟨e,he,hall⟩ := readsOk_ok l st.ents 0 h i o x ho hx hk
 rw [Nat.zero_add] at he hall
 refine ⟨e,he,fun j q hq hc => ?_⟩
 have hr := readAll_ok st.mems 0 hall j q hq (by rw [Nat.zero_add]; exact hc)
 unfold readAt at hr
 split at hr
 ·rename_i h' hadd
  split at hr
  ·rename_i v' hv'
   have := sveq_ok _ _ hr
   subst this
   exact ⟨h',hadd,hv'⟩
  ·cases hr
 ·cases hr
theorem privs_add {p p' : Nat → Bool} {ob : SO} {mk' : Mk} {x : Ent} (hk : x.kd = .alloc ob mk') {i : Nat} (hp : p i = false) (hp' : p' i = true) (hne : ∀ n,n ≠ i → p' n = p n) : ∀ (ents : List Ent) (k : Nat),k ≤ i → ents[i - k]? = some x → (Zct base p' ents k).Perm ((base + i,ob) :: Zct base p ents k)
 | [],k,_,h => by simp at h
 | y :: r,k,hki,h => by
  by_cases q : k = i
  ·subst q
   simp at h; subst h
   have e : Zct base p' r (k + 1) = Zct base p r (k + 1) := Ze4 base r (k + 1) fun n _ _ _ _ _ => hne _ (by omega)
   simp only [Zct,hk,hp,hp',cond_true,cond_false,List.nil_append,e]
   exact .refl _
  ·have ih := privs_add hk hp hp' hne r (k + 1) (by omega) (by rw [show i - k = (i - (k + 1)) + 1 by omega] at h; simpa using h)
   simp only [Zct,hne k q]
   cases y.kd with
   | alloc ob2 mk2 => exact (List.Perm.append_left _ ih).trans List.perm_middle
   | _ => exact ih
theorem St.monoQ {w : World} {ρ ρ' : Rho} (H : ρ.le ρ') {q : Res} {L : List (Nat × SO)} (hS : St W F (q :: (resL Ω ρ L ++ rs)) w) : St W F (q :: (resL Ω ρ' L ++ rs)) w :=
 hS.imp fun _ hg => hg.mono_tail fun g hg => Sep.monoL (fun q h hh => resO.mono H q.1 q.2 h hh) L rs g hg
theorem drawStep (hG : Gd W F) (hX : CtxExt P Ω Γ) (hb0 : n0 ≤ base) (hΓ : Zdv P Γ) (hrec : ∀ f args m v m',rec (.call f args m) = some (.ret v m') → Zff P Ω Gd f args m v m') (hok : ∀ o ∈ l,Zfg N o = true) (hd : Zch l = true) (hwf : Wf (Zbj l) st) (hlen : st.ents.length = l.length)
  (hfact : ∀ (k : Nat) (o : Oper),l[k]? = some o → mk (Zbj l) k < 2 ^ k ∧ ∃ x,st.ents[k]? = some x ∧ FactD Γ rec l base e0 st k o x) (hreads : ReadsP Γ l base e0 st)
  {listed : Array Bool} {j : Nat} {a : Act} {w : World} (H : InvD Ω W F rs N l base e0 st n0 ρ0 listed j a w) {i : Nat} (hi : i ∈ Region.ready .any l.toArray listed) {Q : Act → World → Prop} :
  wpOp P l.toArray (onlyK Q) i (fun a' w' => ∃ j',InvD Ω W F rs N l base e0 st n0 ρ0 (listed.setIfInBounds i true) j' a' w') a w := by
 obtain ⟨hun,o,ho,hall⟩ := mem_ready.1 hi
 have ho' : l[i]? = some o := by simpa using ho
 have hlt : i < listed.size := by rw [H.size]; exact (List.getElem?_eq_some_iff.1 ho').1
 have hunf : listed.getD i false = false := by
  rw [Array.getD_eq_getD_getElem?] at hun ⊢
  rw [Array.getElem?_eq_getElem hlt] at hun ⊢
  simpa using hun
 obtain ⟨hm2,x,hx,hf⟩ := hfact i o ho'
 have hmask : ∀ k,bit (mk (Zbj l) i) k = true → listed.getD k false = true := fun k hk => mask_of_ready H.closed hi hk
 have hcl : ∀ (k : Nat) (o : Oper),l[k]? = some o → listed.getD k false = true → ∀ j,bit (mk (Zbj l) k) j = true → listed.getD j false = true := fun k o h1 h2 j h3 => mask_of_listed H.closed h1 h2 h3
 have hmem : o ∈ l := List.mem_of_getElem? ho'
 have hoo := hok o hmem
 have hN : dstOk N o.dst := fun k hk => by
  simp only [Zfg,hk,Bool.and_eq_true] at hoo; exact hoo.1
 have hset := getD_set (listed := listed) hlt
 have hSS : ∀ k,(listed.setIfInBounds i true).getD k false = true ↔ listed.getD k false = true ∨ k = i := fun k => by rw [hset]; simp
 obtain ⟨ρ,σ,abs,m,hmj,ha,hext,henv,hbel,hfree,htop,hbase,hS⟩ := H.run
 have hni : ¬ (listed.getD i false = true) := by rw [hunf]; simp
 -- a soft one
 have soft : (∀ ob mk,x.kd ≠ .alloc ob mk) → x.kd ≠ .main → ∀ u,Rep ρ x.v u → ∀ a',Fr (putV o.dst u σ) N md0 a' → InvD Ω W F rs N l base e0 st n0 ρ0 (listed.setIfInBounds i true) j a' w := by
  intro hna hnm u hu a' ha'
  refine ⟨by rw [Array.size_setIfInBounds]; exact H.size,H.closed.set hi,fun k y hk => ?_,ρ,putV o.dst u σ,abs,m,hmj,ha',hext,henv.add hd ho' hx hSS hu,hbel,fun k y ob mk' h1 h2 h3 => ?_,htop,hbase,?_⟩
  ·have hyi : y ≠ i := fun q => by
    subst q
    obtain ⟨z,h1,h2⟩ := hwf.main k y hk
    rw [hx] at h1; cases h1
    exact hnm h2
   rw [hset,decide_eq_false hyi,Bool.or_false]
   exact H.mains k y hk
  ·refine hfree k y ob mk' h1 h2 ?_
   rw [hset] at h3
   simp only [Bool.or_eq_false_iff] at h3; exact h3.1
  ·have : Zct base (left (listed.setIfInBounds i true) abs) st.ents 0 = Zct base (left listed abs) st.ents 0 := by
    refine Ze4 base st.ents 0 fun n y ob mk' h1 h2 => ?_
    rw [Nat.zero_add]
    have hni : n ≠ i := fun q => by subst q; rw [hx] at h1; cases h1; exact hna _ _ h2
    unfold left
    rw [hset,decide_eq_false hni,Bool.or_false]
   rw [this]; exact hS
 have go : Region.wanted o (yielded l.toArray a.tmps) = true → X P o N md0 σ w (fun σ' w' => ∀ a',Fr σ' N md0 a' → ∃ j',InvD Ω W F rs N l base e0 st n0 ρ0 (listed.setIfInBounds i true) j' a' w') →
   wpOp P l.toArray (onlyK Q) i (fun a' w' => ∃ j',InvD Ω W F rs N l base e0 st n0 ρ0 (listed.setIfInBounds i true) j' a' w') a w := by
  intro hw hX
  unfold wpOp
  simp only [ho]
  rw [if_pos hw]
  exact .inl (hX.run a ha _ _ fun σ' w' a' ha' hk => hk a' ha')
 cases hf with
 | skip pre hp hw hx' =>
  have hwant := Zfq henv hp hmask hw ha
  unfold wpOp
  simp only [ho]
  rw [if_neg (by rw [hwant]; simp)]
  refine ⟨j,soft (by rw [hx']; intro _ _ q; cases q) (by rw [hx']; intro q; cases q) undef (by rw [hx']; exact ⟨[],rfl,rfl⟩) _ (Fr.putV ha hN undef)⟩
 | soft pre hp hw e he hk h =>
  have hE := mkEnv_ok henv (fun k y hy => Zdi hp hy) hd hni hmask hcl _ e he
  refine go (Zfq henv hp hmask hw ha) ?_
  obtain ⟨u,hu,hy⟩ := pureOp_ok (w := w) hΓ hE h
  exact X_exec (fun a ha => .inl (hy.run N md0 a ha)) hN fun a' ha' => ⟨j,soft (by rw [hk]; intro _ _ q; cases q) (by rw [hk]; intro q; cases q) u hu a' ha'⟩
 | alloc pre hp hw e he ob mk' hk h hv hdn =>
  have hE := mkEnv_ok henv (fun k y hy => Zdi hp hy) hd hni hmask hcl _ e he
  refine go (Zfq henv hp hmask hw ha) ?_
  have hfr := hfree i x ob mk' hx hk hunf
  cases hod : o.dst with
  | none => exact absurd hod hdn
  | some d =>
   refine allocOp_ok (Ω := Ω) hΓ hE h hfr hod (hN d hod) hS fun L u w' hu hS' a' ha' => ⟨j,?_⟩
   have hbi : base + i < m.n := by have := H.size; omega
   have hle := Rho.add_le (L := L) hfr
   have hn0 : n0 ≤ m.n := hext.2.2
   refine ⟨by rw [Array.size_setIfInBounds]; exact H.size,H.closed.set hi,fun k y hky => ?_,ρ.add (base + i) L,(d,u) :: σ,abs,m,hmj,ha',⟨hext.1.trans hle,fun q hq => ?_,hn0⟩,?_,fun q hq => ?_,fun k y ob2 mk2 h1 h2 h3 => ?_,htop,hbase,?_⟩
   ·have hyi : y ≠ i := fun q => by
     subst q
     obtain ⟨z,h1,h2⟩ := hwf.main k y hky
     rw [hx] at h1; cases h1
     rw [hk] at h2; cases h2
    rw [hset,decide_eq_false hyi,Bool.or_false]
    exact H.mains k y hky
   ·unfold Rho.add; rw [if_neg (by omega)]; exact hext.2.1 q hq
   ·have := (henv.mono hle).add (S' := fun k => (listed.setIfInBounds i true).getD k false = true) hd ho' hx hSS (u := u) (by rw [hv]; exact hu)
    rw [hod] at this
    exact this
   ·unfold Rho.add; rw [if_neg (by omega)]; exact hbel q hq
   ·rw [hset] at h3
    simp only [Bool.or_eq_false_iff,decide_eq_false_iff_not] at h3
    unfold Rho.add; rw [if_neg (by omega)]; exact hfree k y ob2 mk2 h1 h2 h3.1
   ·have habs : bit abs i = false := by
     cases hb : bit abs i with
     | false => rfl
     | true =>
      exfalso
      obtain ⟨k',y,g1,g2,g3⟩ := hwf.abs j abs m hmj i hb
      obtain ⟨z,z1,_⟩ := hwf.main k' y g2
      have hyy : y < l.length := by rw [← hlen]; exact (List.getElem?_eq_some_iff.1 z1).1
      exact hni (hcl y _ (List.getElem?_eq_getElem hyy) ((H.mains k' y g2).2 g1) i g3)
    have hperm := privs_add (base := base) (p := left listed abs) (p' := left (listed.setIfInBounds i true) abs) hk (i := i) (by unfold left; rw [hunf]; rfl) (by unfold left; rw [hset,habs]; simp) (fun n hn => by unfold left; rw [hset,decide_eq_false hn,Bool.or_false]) st.ents 0 (Nat.zero_le _) (by simpa using hx)
    have h7 := St.monoQ hle hS'
    exact St.permH (l := (base + i,ob) :: (Zct base (left listed abs) st.ents 0 ++ m.h.toList)) (hperm.symm.append_right _) h7
 | read pre hp hw hk =>
  obtain ⟨e,he,hall2⟩ := hreads i o x ho' hx hk
  have hE := mkEnv_ok henv (fun k y hy => hy) hd hni hmask hcl _ e he
  refine go (Zfq henv hp hmask hw ha) ?_
  have hc : compat (Zbj l) st.mains i j = true := by
   refine compat_all (fun k y hk hy => ?_) fun k y hk hy => ?_
   ·cases hb : bit (mk (Zbj l) y) i with
    | false => rfl
    | true =>
     exfalso
     have hyl := (H.mains k y hy).2 hk
     obtain ⟨z,h1,_⟩ := hwf.main k y hy
     have hyy : y < l.length := by rw [← hlen]; exact (List.getElem?_eq_some_iff.1 h1).1
     exact hni (hcl y _ (List.getElem?_eq_getElem hyy) hyl i hb)
   ·cases hb : bit (mk (Zbj l) i) y with
    | false => rfl
    | true =>
     exfalso
     have := (H.mains k y hy).1 (hmask y hb)
     omega
  obtain ⟨h',hadd,hv'⟩ := hall2 j _ hmj hc
  have hS2 := mid hS hmask ⟨[],by simp⟩ (fun k hk => bit_high hm2 (by have := H.size; omega)) hadd
  obtain ⟨u,hu,hy⟩ := readOp_ok (w := w) hΓ hE (St.heapRd hS2) hv'
  exact X_exec (fun a ha => .inl (hy.run N md0 a ha)) hN fun a' ha' => ⟨j,soft (by rw [hk]; intro _ _ q; cases q) (by rw [hk]; intro q; cases q) u hu a' ha'⟩
 | main pre hp hw e he hk k abs2 m2 m' h' hpl h1 h2 h3 h4 h5 h6 =>
  have hE := mkEnv_ok henv (fun k y hy => Zdi hp hy) hd hni hmask hcl _ e he
  refine go (Zfq henv hp hmask hw ha) ?_
  have hkj : k = j := by
   rcases Nat.lt_trichotomy k j with q | q | q
   ·exact absurd ((H.mains k i h1).2 q) hni
   ·exact q
   ·have hjl : j < st.mains.length := by have := (List.getElem?_eq_some_iff.1 h1).1; omega
    have hy := List.getElem?_eq_getElem hjl
    have := (H.mains j _ hy).1 (hmask _ (h4 j _ q hy))
    omega
  subst hkj
  rw [hmj] at h2; cases h2
  have hS2 := mid hS hmask hp (fun k hk => bit_high hm2 (by omega)) h5
  refine heavy_ok (m := ⟨h',m.n⟩) hG hX hΓ hrec h6 hN hE hbel htop hS2 fun ρ' u w' r1 r2 r3 r4 r5 a' ha' => ⟨k + 1,?_⟩
  refine ⟨by rw [Array.size_setIfInBounds]; exact H.size,H.closed.set hi,fun k' y hky => ?_,ρ',putV o.dst u σ,_,m',h3,ha',hext.trans r1,(henv.mono r1.1).add hd ho' hx hSS r4,r2,fun q y ob mk' g1 g2 g3 => ?_,r3,by have := r1.2.2; simp only at this; omega,?_⟩
  ·rw [hset]
   by_cases hyi : y = i
   ·subst hyi
    have : k' = k := by
     rcases Nat.lt_trichotomy k' k with q | q | q
     ·have := hwf.inc k' k y y q hky h1; omega
     ·exact q
     ·have := hwf.inc k k' y y q h1 hky; omega
    subst this
    simp
   ·rw [decide_eq_false hyi,Bool.or_false,H.mains k' y hky]
    constructor
    ·intro q; omega
    ·intro q
     rcases Nat.lt_or_ge k' k with q2 | q2
     ·exact q2
     ·have : k' = k := by omega
      subst this
      rw [h1] at hky; cases hky
      exact absurd rfl hyi
  ·rw [hset] at g3
   simp only [Bool.or_eq_false_iff] at g3
   have hq : q < l.length := by rw [← hlen]; exact (List.getElem?_eq_some_iff.1 g1).1
   rw [r1.2.1 (base + q) (by show base + q < m.n; omega)]
   exact hfree q y ob mk' g1 g2 g3.1
  ·have e1 : Zct base (left (listed.setIfInBounds i true) (Nat.lor abs (mk (Zbj l) i))) st.ents 0 = Zct base (left listed (Nat.lor abs (mk (Zbj l) i))) st.ents 0 := by
    refine Ze4 base st.ents 0 fun n y ob mk' g1 g2 => ?_
    rw [Nat.zero_add]
    have hni : n ≠ i := fun q => by subst q; rw [hx] at g1; cases g1; rw [hk] at g2; cases g2
    unfold left
    rw [hset,decide_eq_false hni,Bool.or_false]
   rw [e1]
   have r6 : St W F (res Ω ρ' m'.h ++ (resL Ω ρ' (Zct base (left listed (Nat.lor abs (mk (Zbj l) i))) st.ents 0) ++ rs)) w' := by
    refine r5.imp fun g hg => ?_
    have := Sep.perm (List.perm_append_comm_assoc ..) g hg
    refine Sep.perm (List.perm_append_comm_assoc ..) g ?_
    exact Sep.monoL (fun q h hh => resO.mono r1.1 q.1 q.2 h hh) _ _ g this
   refine r6.perm ?_
   rw [resL_append,List.append_assoc]
   exact List.perm_append_comm_assoc ..
theorem wpAny_inv (A : Array Bool → Act → World → Prop) {Q : Act → World → Prop} {ops : Array Oper} (hstep : ∀ listed a w,A listed a w → ∀ i ∈ Region.ready .any ops listed,wpOp P ops (onlyK Q) i (fun a' w' => A (listed.setIfInBounds i true) a' w') a w)
  (hend : ∀ listed a w,A listed a w → Region.ready .any ops listed = [] → Q a w) (hsize : ∀ listed a w,A listed a w → listed.size = ops.size) :
  ∀ (f : Nat) (listed : Array Bool) (a : Act) (w : World),(List.range ops.size).countP (fun i => !listed.getD i false) ≤ f → A listed a w → wpAny P .any ops (onlyK Q) f listed a w
 | 0,listed,a,w,hc,H => by
  have hr : Region.ready .any ops listed = [] := by
   apply List.eq_nil_iff_forall_not_mem.2
   intro i hi
   obtain ⟨hun,o,ho,_⟩ := mem_ready.1 hi
   have hlt : i < ops.size := (Array.getElem?_eq_some_iff.1 ho).1
   have := List.countP_eq_zero.1 (Nat.le_zero.1 hc) i (List.mem_range.2 hlt)
   rw [Array.getD_eq_getD_getElem?,Array.getElem?_eq_getElem (by rw [hsize _ _ _ H]; exact hlt)] at hun this
   simp at hun this
   rw [this] at hun; cases hun
  exact ⟨hr,hend _ _ _ H hr⟩
 | f + 1,listed,a,w,hc,H => by
  refine ⟨fun hr => hend _ _ _ H hr,fun i hi => wpOp_mono (fun a' w' H' => wpAny_inv A hstep hend hsize f _ a' w' ?_ H') (hstep _ _ _ H i hi)⟩
  obtain ⟨hun,o,ho,_⟩ := mem_ready.1 hi
  have hlt : i < ops.size := (Array.getElem?_eq_some_iff.1 ho).1
  have hls : i < listed.size := by rw [hsize _ _ _ H]; exact hlt
  have hlt2 : (List.range ops.size).countP (fun k => !(listed.setIfInBounds i true).getD k false) < (List.range ops.size).countP (fun k => !listed.getD k false) := by
   have key : ∀ (L : List Nat),i ∈ L → L.countP (fun k => !(listed.setIfInBounds i true).getD k false) < L.countP (fun k => !listed.getD k false) := by
    intro L
    induction L with
    | nil => intro h; cases h
    | cons y L ih =>
     intro hm
     have hle : ∀ L : List Nat,L.countP (fun k => !(listed.setIfInBounds i true).getD k false) ≤ L.countP (fun k => !listed.getD k false) := fun L => List.countP_mono_left fun k _ hk => by
      rw [getD_set hls] at hk
      cases hq : listed.getD k false with
      | false => rfl
      | true => rw [hq] at hk; simp at hk
     simp only [List.countP_cons]
     by_cases hyi : y = i
     ·subst hyi
      have h1 : (!(listed.setIfInBounds y true).getD y false) = false := by rw [getD_set hls]; simp
      have h2 : (!listed.getD y false) = true := by
       rw [Array.getD_eq_getD_getElem?,Array.getElem?_eq_getElem hls] at hun ⊢
       simp at hun ⊢; exact hun
      rw [h1,h2]
      have := hle L
      simp only [Bool.false_eq_true,if_false,if_true]; omega
     ·have hm' : i ∈ L := (List.mem_cons.1 hm).resolve_left fun e => hyi e.symm
      have := ih hm'
      have h1 : (!(listed.setIfInBounds i true).getD y false) = (!listed.getD y false) := by rw [getD_set hls,decide_eq_false hyi,Bool.or_false]
      rw [h1]
      omega
   exact key _ (List.mem_range.2 hlt)
  omega
end
end Cr.Cl
