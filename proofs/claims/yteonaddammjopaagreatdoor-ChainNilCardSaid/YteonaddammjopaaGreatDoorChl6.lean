/-
  Closed runs,5: all operations that touch no memory ('pureOp_ok'). Over any program.
  Maps with keys of an integer type or strings: made,looked up,updated. Over any program.
  Maps that are gone through: a map's entries bear stamps,all below its clock and no two alike; lookups,updates,deletions; 'range' in whatever order. Over any program.
  Closed runs,6: the operations that read memory,and those that make an object of their own. Over any program.
  Closed runs,7: the operations that make an object of their own. Over any program.
  Closed runs,8: the operations that change memory: stores,and append. Over any program.
  Closed runs,9: append,over named memory. Over any program.
-/
import Derived.Test.YteonaddammjopaaGreatDoorChl5
import Derived.Test.YteonaddammjopaaGreatDoorChl3
import Derived.MapKept
import Derived.Laws.IdiomRangeMap
namespace Cr.Cl
open Go
set_option maxRecDepth 4000
section
variable {P : Program} {Γ : Ctx} {ρ : Rho} {o : Oper} {σ : Env} {w : World} {e : Envs}
theorem str_get {t : TypeId} {pl : List (Nat × Nat)} (h : Str P t pl) {f off n : Nat} (hf : pl[f]? = some (off,n)) : ∃ fs : Array Field,∃ fd : Field,P.underlying t = some (.struct fs) ∧ fs[f]? = some fd ∧ fd.offset = off ∧ (P.info? fd.type).map (·.size) = some n := by
 obtain ⟨fs,h1,h2,h3⟩ := h.str
 have g2 := congrArg (·[f]?) h2
 have g3 := congrArg (·[f]?) h3
 simp only [List.getElem?_map,hf,Option.map_some] at g2 g3
 cases hq : fs[f]? with
 | none => rw [hq] at g2; cases g2
 | some fd =>
  rw [hq] at g2 g3
  simp only [Option.map_some,Option.some.injEq] at g2 g3
  exact ⟨fs.toArray,fd,h1,by simpa using hq,g3,g2⟩
theorem fill_ok (he : EnvR ρ e σ) {pl : Nat → Option (Nat × Nat)} : ∀ (xs : List (Nat × Operand)) (ps : List (Nat × Nat × SV)) (z l : List SV) (zs : List Value),evParts e pl xs = some ps → fillS z ps = some l → RepL ρ z zs →
  ∃ parts ls,evps σ xs = some parts ∧ RepL ρ l ls ∧ Instr.fill pl zs.toArray parts = some ls.toArray ∧ l.length = z.length
 | [],ps,z,l,zs,h1,h2,hz => by
  simp only [evParts,Option.some.injEq] at h1; subst h1
  simp only [fillS,Option.some.injEq] at h2; subst h2
  exact ⟨[],zs,rfl,hz,rfl,rfl⟩
 | (i,x) :: r,ps,z,l,zs,h1,h2,hz => by
  simp only [evParts] at h1
  split at h1
  ·rename_i off n hp
   split at h1
   ·rename_i v hv
    replace h1 := Zas h1; obtain ⟨hn,h1⟩ := h1
    have hn := Zcb hn
    split at h1
    ·rename_i qs hq
     cases h1
     simp only [fillS] at h2
     replace h2 := Zas h2; obtain ⟨hle,h2⟩ := h2
     have hle := Zca hle
     obtain ⟨u,hu,hx⟩ := Zbk he hv
     have hc := Rep.cells hu
     obtain ⟨parts,ls,g1,g2,g3,g4⟩ := fill_ok he r qs _ l _ hq h2 (RepL.lput hz hc off)
     have hlen := RepL.length hc
     have hzl := RepL.length hz
     refine ⟨(i,u) :: parts,ls,by simp [evps,hx,g1],g2,?_,by rw [g4]; simp only [lput,List.length_append,List.length_take,List.length_drop]; omega⟩
     rw [fill_step (vs := u.cells.toList) (off := off) (by rw [hp,hlen,hn]) (by simp) (by omega)]
     exact g3
    ·cases h1
   ·cases h1
  ·cases h1
theorem Zdt {b : Builtin} {args : Array Operand} {ts : Array TypeId} {vs : List Value} (ho : o.op = .call { callee := .builtin b,args := args,argTypes := ts }) (hv : evs σ args.toList = some vs) {N : Nat} {ds : Md} {a : Act} (ha : Fr σ N ds a) :
  ∃ consts,execOp a.eval o = builtin b ts o.type consts vs.toArray := by
 refine ⟨args.map fun | .const _ => true | _ => false,?_⟩
 have : args.map a.eval = vs.toArray := by
  have := ha.evals hv
  rw [← this]; apply Array.ext'; simp
 simp [execOp,ho,resolve,invoke,this]
 rfl
theorem evs_one {x : Operand} {v : Value} (h : ev σ x = some v) : evs σ [x] = some [v] := by simp [evs,h]
theorem evs_two {x y : Operand} {u v : Value} (h : ev σ x = some u) (h' : ev σ y = some v) : evs σ [x,y] = some [u,v] := by simp [evs,h,h']
theorem bs_size (l : List Nat) : (bs l).size = l.length := by simp [bs,ByteArray.size]
theorem Zd1 {s : SV} {u : Value} {n : Nat} (hu : Rep ρ s u) (h : lenOf s = some n) : ∃ a c,u = .slice a n c ∧ n ≤ c := by
 unfold lenOf at h
 split at h
 ·cases h; cases hu; exact ⟨none,0,rfl,Nat.le_refl _⟩
 ·cases h; obtain ⟨a,c,rfl⟩ := hu; exact ⟨_,_,rfl,Nat.zero_le _⟩
 ·cases h; obtain ⟨L,_,h1,rfl⟩ := hu; exact ⟨_,_,rfl,h1⟩
 ·cases h; obtain ⟨L,_,h1,rfl⟩ := hu; exact ⟨_,_,rfl,by omega⟩
 ·cases h
theorem evBuiltin_ok (hΓ : Zdv P Γ) (he : EnvR ρ e σ) {b : Builtin} {args : Array Operand} {ts : Array TypeId} (ho : o.op = .call { callee := .builtin b,args := args,argTypes := ts }) {s : SV} (h : evBuiltin Γ e b args.toList ts.toList = some s) : Gives P ρ o σ w s := by
 unfold evBuiltin at h
 obtain ⟨ts⟩ := ts
 obtain ⟨args⟩ := args
 simp only at h
 split at h
 ·rename_i x t _
  split at h
  ·rename_i d hd
   split at h
   ·rename_i v hv
    split at h
    ·rename_i n hn
     cases h
     obtain ⟨u,hu,hx⟩ := Zbk he hv
     refine ⟨_,rfl,⟨fun N ds a ha => ?_⟩⟩
     obtain ⟨c,hc⟩ := Zdt ho (evs_one hx) ha
     have hU := (Zb7 hΓ hd).und
     rw [hc]
     unfold evLen at hn
     split at hn
     ·cases hn; obtain ⟨_,rfl⟩ := hu
      simp [builtin,Builtin.len_,run_underlying hU,goInt,bs_size]
     ·obtain ⟨q,c',rfl,_⟩ := Zd1 hu hn
      simp [builtin,Builtin.len_,run_underlying hU,goInt]
     ·cases hn
      simp [builtin,Builtin.len_,run_underlying hU,goInt]
     ·cases hn
    ·cases h
   ·cases h
  ·cases h
 ·rename_i x t _
  split at h
  ·rename_i el hd
   have hU := (Zb7 hΓ hd).und
   split at h
   ·rename_i q q1 q2 c hv
    cases h
    obtain ⟨u,⟨L,_,_,rfl⟩,hx⟩ := Zbk he hv
    refine ⟨_,rfl,⟨fun N ds a ha => ?_⟩⟩
    obtain ⟨c,hc⟩ := Zdt ho (evs_one hx) ha
    rw [hc]
    simp [builtin,Builtin.cap_,run_underlying hU,goInt]
   ·rename_i hv
    cases h
    obtain ⟨u,hu,hx⟩ := Zbk he hv
    cases hu
    refine ⟨_,rfl,⟨fun N ds a ha => ?_⟩⟩
    obtain ⟨c,hc⟩ := Zdt ho (evs_one hx) ha
    rw [hc]
    simp [builtin,Builtin.cap_,run_underlying hU,goInt]
   ·cases h
  ·cases h
 ·rename_i x y _
  split at h
  ·rename_i k a' hv
   split at h
   ·rename_i k' b' hv'
    cases h
    obtain ⟨u,hu,hx⟩ := Zbk he hv
    obtain ⟨u',hu',hx'⟩ := Zbk he hv'
    cases hu; cases hu'
    refine ⟨_,rfl,⟨fun N ds a ha => ?_⟩⟩
    obtain ⟨c,hc⟩ := Zdt ho (evs_two hx hx') ha
    rw [hc,ilt_ok]
    by_cases q : b' < a' <;> simp [builtin,Builtin.min_,Builtin.min2,q]
   ·cases h
  ·cases h
 ·rename_i x y _
  split at h
  ·rename_i k a' hv
   split at h
   ·rename_i k' b' hv'
    cases h
    obtain ⟨u,hu,hx⟩ := Zbk he hv
    obtain ⟨u',hu',hx'⟩ := Zbk he hv'
    cases hu; cases hu'
    refine ⟨_,rfl,⟨fun N ds a ha => ?_⟩⟩
    obtain ⟨c,hc⟩ := Zdt ho (evs_two hx hx') ha
    rw [hc,ilt_ok]
    by_cases q : a' < b' <;> simp [builtin,Builtin.max_,Builtin.max2,q]
   ·cases h
  ·cases h
 ·cases h
theorem pureOp_ok (hΓ : Zdv P Γ) (he : EnvR ρ e σ) {s : SV} (h : Zd0 Γ e o.op = some s) : Gives P ρ o σ w s := by
 unfold Zd0 at h
 split at h
 ·rename_i x ho
  obtain ⟨v,hv,hx⟩ := Zbk he h
  exact ⟨v,hv,Zad ho hx⟩
 ·rename_i x ho
  obtain ⟨v,hv,hx⟩ := Zbk he h
  exact ⟨v,hv,Zab ho hx⟩
 ·rename_i c a b ho
  split at h
  ·rename_i t hc
   obtain ⟨vc,hvc,hxc⟩ := Zbk he hc
   cases hvc
   cases t
   ·obtain ⟨v,hv,hx⟩ := Zbk he h
    exact ⟨v,hv,Za6 ho hxc hx⟩
   ·obtain ⟨v,hv,hx⟩ := Zbk he h
    exact ⟨v,hv,Zbp ho hxc hx⟩
  ·cases h
 ·rename_i x ho
  split at h
  ·rename_i v hv
   obtain ⟨u,hu,hx⟩ := Zbk he hv
   unfold evNil at h
   split at h
   ·cases h; obtain ⟨L,hL,rfl⟩ := hu
    exact ⟨_,⟨L,hL,rfl⟩,Zag ho hx⟩
   ·cases h; cases hu
    exact ⟨_,rfl,Zag ho hx⟩
   ·cases h; obtain ⟨va,vc,h1,h2,rfl⟩ := hu
    refine ⟨_,⟨va,vc,h1,h2,rfl⟩,⟨fun N ds a ha => ?_⟩⟩
    simp [execOp,ho,ha.eval hx]
   ·cases h; obtain ⟨u',h1,rfl⟩ := hu
    refine ⟨_,⟨u',h1,rfl⟩,⟨fun N ds a ha => ?_⟩⟩
    simp [execOp,ho,ha.eval hx]
   ·cases h
  ·cases h
 ·rename_i op t x y ty ho
  split at h
  ·rename_i a ha
   split at h
   ·rename_i b hb
    obtain ⟨u,hu,hx⟩ := Zbk he ha
    obtain ⟨v,hv,hy⟩ := Zbk he hb
    exact bin_ok hΓ ho hu hv hx hy h
   ·cases h
  ·cases h
 ·rename_i op t x ho
  split at h
  ·rename_i a ha
   obtain ⟨u,hu,hx⟩ := Zbk he ha
   exact un_ok ho hu hx h
  ·cases h
 ·rename_i s' d x ho
  split at h
  ·rename_i ds' hds
   split at h
   ·rename_i dd hdd
    split at h
    ·rename_i v hv
     obtain ⟨u,hu,hx⟩ := Zbk he hv
     have h1 := Zb7 hΓ hds
     have h2 := Zb7 hΓ hdd
     unfold evConv at h
     split at h
     ·cases h; cases hu; exact ⟨_,rfl,Zeb (hs := h1) (hd := h2) ho hx rfl⟩
     ·cases h; obtain ⟨h3,rfl⟩ := hu
      refine ⟨_,⟨h3,rfl⟩,⟨fun N ds a ha => ?_⟩⟩
      simp only [execOp,ho,ha.eval hx,convert,Sem.run_bind,run_underlying h1.und,run_underlying h2.und,Result.andThen_ok]
      cases ds' <;> rfl
     ·cases h
    ·cases h
   ·cases h
  ·cases h
 ·rename_i t x ho
  split at h
  ·rename_i d hd
   replace h := none_cond h; obtain ⟨hi,h⟩ := h
   split at h
   ·rename_i v hv
    cases h
    obtain ⟨u,hu,hx⟩ := Zbk he hv
    have h1 := (Zb7 hΓ hd).und
    refine ⟨_,⟨u,hu,rfl⟩,⟨fun N ds a ha => ?_⟩⟩
    simp only [execOp,ho,ha.eval hx,Instr.makeInterface,Sem.run_bind,run_underlying h1,Result.andThen_ok]
    cases d <;> first | rfl | (exact absurd hi (by simp [isIfc]))
   ·cases h
  ·cases h
 ·rename_i f a c ho
  split at h
  ·rename_i x hx
   split at h
   ·rename_i y hy
    cases h
    obtain ⟨va,h1,e1⟩ := opnds_ok he hx
    obtain ⟨vc,h2,e2⟩ := opnds_ok he hy
    refine ⟨_,⟨va,vc,h1,h2,rfl⟩,⟨fun N ds q hq => ?_⟩⟩
    have g1 : a.map q.eval = va.toArray := by rw [← hq.evals e1]; apply Array.ext'; simp
    have g2 : c.map q.eval = vc.toArray := by rw [← hq.evals e2]; apply Array.ext'; simp
    simp [execOp,ho,Instr.makeFunc,g1,g2]
   ·cases h
  ·cases h
 ·rename_i t x lo hi mx ho
  split at h
  ·rename_i hd
   split at h
   ·rename_i l hl
    obtain ⟨u,⟨h1,rfl⟩,hx⟩ := Zbk he hl
    exact evSlStr_ok he (Zb7 hΓ hd) ho h1 hx h
   ·cases h
  ·rename_i el hd
   split at h
   ·rename_i sz hsz
    split at h
    ·rename_i v hv
     obtain ⟨u,hu,hx⟩ := Zbk he hv
     have i1 := Zb7 hΓ hd
     have i2 := siz_ok hΓ hsz
     replace h := Zas h; obtain ⟨hmx,h⟩ := h
     refine evSl_ok he sz hu (fun a n c l b vl vh hm hu' e1 e2 b1 b2 => ?_) (fun a n c l b k vl vh vm hu' e1 e2 e3 b1 b2 b3 => ?_) ?_ h
     ·subst hm; subst hu'; exact Zcx (hu := i1) (hs := i2) ho hx e1 e2 b1 b2
     ·subst hu'; exact Yl_slice3 (hu := i1) (hs := i2) ho hx e1 e2 e3 b1 b2 b3
     ·intro h1 h2; subst h2; cases mx <;> simp_all [okMx]
    ·cases h
   ·cases h
  ·rename_i n el hd
   split at h
   ·rename_i sz hsz
    split at h
    ·rename_i v hv
     obtain ⟨u,hu,hx⟩ := Zbk he hv
     have i1 := Zb7 hΓ hd
     have i2 := siz_ok hΓ hsz
     replace h := Zas h; obtain ⟨hmx,h⟩ := h
     unfold evArrSl at h
     split at h
     ·rename_i ob off
      obtain ⟨L,hL,rfl⟩ := hu
      refine evSl_ok he sz (v := .sl ob off n n) ⟨L,hL,Nat.le_refl _,rfl⟩ (fun a n' c l b vl vh hm hu' e1 e2 b1 b2 => ?_) (fun a n' c l b k vl vh vm hu' e1 e2 e3 b1 b2 b3 => ?_) ?_ h
      ·subst hm; cases hu'; exact Yl_slice_arr2 (hu := i1) (hs := i2) ho hx e1 e2 b1 b2
      ·cases hu'; exact Yl_slice_arr3 ho hx e1 e2 e3 i1 i2 b1 b2 b3
      ·intro h1 h2; subst h2; cases mx <;> simp_all [okMx]
     ·cases h
    ·cases h
   ·cases h
  ·cases h
 ·rename_i t x f ho
  split at h
  ·rename_i ti hti
   split at h
   ·rename_i fs hfs
    split at h
    ·rename_i v hv
     obtain ⟨u,hu,hx⟩ := Zbk he hv
     unfold evFieldAddr at h
     split at h
     ·rename_i off n hp
      split at h
      ·cases h
       obtain ⟨L,hL,rfl⟩ := hu
       obtain ⟨fs',fd,g1,g2,g3,g4⟩ := str_get ((hΓ t ti hti).str fs hfs) hp
       refine ⟨_,⟨L,hL,rfl⟩,?_⟩
       exact Zbr (h := ⟨⟨fs',fd,g1,g2,g3,rfl,g4⟩⟩) ho hx rfl
      ·cases h
     ·cases h
    ·cases h
   ·cases h
  ·cases h
 ·rename_i t x f ho
  split at h
  ·rename_i fs hd
   split at h
   ·rename_i fd hfd
    split at h
    ·rename_i cs hcs
     obtain ⟨u,⟨vs,h1,rfl⟩,hx⟩ := Zbk he hcs
     obtain ⟨v,h2,h3⟩ := part_ok hΓ h1 h
     refine ⟨v,h2,⟨fun N ds a ha => ?_⟩⟩
     simp [execOp,ho,ha.eval hx,Instr.field,run_underlying (Zb7 hΓ hd).und,hfd,asAgg,h3]
    ·cases h
   ·cases h
  ·cases h
 ·rename_i t x i ho
  split at h
  ·rename_i d hd
   split at h
   ·rename_i el hel
    split at h
    ·rename_i sz hsz
     split at h
     ·rename_i v hv
      split at h
      ·rename_i k n hi
       obtain ⟨u,hu,hx⟩ := Zbk he hv
       obtain ⟨u',hu',hx'⟩ := Zbk he hi
       cases hu'
       have i1 := Zb7 hΓ hd
       have i2 := siz_ok hΓ hsz
       unfold evIndexAddr at h
       split at h
       ·replace h := Zas h; obtain ⟨hlt,h⟩ := h
        cases h
        obtain ⟨L,hL,rfl⟩ := hu
        cases hel
        have := Zbs (P := P) (w := w) (h := i1) (hs := i2) ho hx hx' (by simp) (by have := Zcr hlt; simp; omega)
        exact ⟨_,⟨L,hL,rfl⟩,by simpa using this⟩
       ·replace h := Zas h; obtain ⟨hlt,h⟩ := h
        cases h
        obtain ⟨L,hL,_,rfl⟩ := hu
        cases hel
        have := Zau (P := P) (w := w) (h := i1) (hs := i2) ho hx hx' (by simp) (by have := Zcr hlt; simp; omega) ⟨_,_,rfl⟩
        exact ⟨_,⟨L,hL,rfl⟩,by simpa [adr] using this⟩
       ·replace h := Zas h; obtain ⟨hlt,h⟩ := h
        replace h := Zas h; obtain ⟨hq,h⟩ := h
        cases h
        have hq := Zcb hq; subst hq
        obtain ⟨L,hL,_,rfl⟩ := hu
        cases hel
        have := Zau (P := P) (w := w) (h := i1) (hs := i2) ho hx hx' (by simp) (by have := Zcr hlt; simp; omega) ⟨_,_,rfl⟩
        exact ⟨_,⟨L,hL,rfl⟩,by simpa [adr] using this⟩
       ·cases h
      ·cases h
     ·cases h
    ·cases h
   ·cases h
  ·cases h
 ·rename_i t x i ho
  split at h
  ·rename_i n el hd
   split at h
   ·rename_i sz hsz
    split at h
    ·rename_i cs hcs
     split at h
     ·rename_i k j hi
      replace h := Zas h; obtain ⟨hlt,h⟩ := h
      obtain ⟨u,⟨vs,h1,rfl⟩,hx⟩ := Zbk he hcs
      obtain ⟨u',hu',hx'⟩ := Zbk he hi
      cases hu'
      obtain ⟨v,h2,h3⟩ := part_ok hΓ h1 h
      have i2 := siz_ok hΓ hsz
      have hlt := Zcr hlt
      refine ⟨v,h2,⟨fun N ds a ha => ?_⟩⟩
      have q1 : (0 : Int) ≤ .ofNat j := by simp
      have q2 : (.ofNat j : Int) < n := by simp; omega
      simp [execOp,ho,ha.eval hx,ha.eval hx',Instr.index,asIntOf,run_underlying (Zb7 hΓ hd).und,Zb0 (n := sz),h3]
      omega
     ·cases h
    ·cases h
   ·cases h
  ·rename_i hd
   split at h
   ·rename_i l hl
    split at h
    ·rename_i k j hi
     split at h
     ·rename_i c hc
      cases h
      obtain ⟨u,⟨h1,rfl⟩,hx⟩ := Zbk he hl
      obtain ⟨u',hu',hx'⟩ := Zbk he hi
      cases hu'
      have i1 := Zb7 hΓ hd
      have := Yl_indexStr (P := P) (w := w) (s := l.map UInt8.ofNat) (b := UInt8.ofNat c) ho hx hx' (h := i1) (by simp) (by simp [hc])
      refine ⟨_,rfl,?_⟩
      have hc' : c < 256 := h1 c (List.mem_of_getElem? hc)
      simpa [Nat.mod_eq_of_lt hc'] using this
     ·cases h
    ·cases h
   ·cases h
  ·cases h
 ·rename_i x i ho
  split at h
  ·rename_i l hl
   obtain ⟨u,⟨vs,h1,rfl⟩,hx⟩ := Zbk he hl
   obtain ⟨v,h2,h3⟩ := RepL.get h1 h
   exact ⟨v,h3,Zbi (hv := ⟨h2⟩) ho hx⟩
  ·cases h
 ·rename_i t parts ho
  split at h
  ·rename_i ti hti
   obtain ⟨z,hz1,hz2,_,_⟩ := (hΓ t ti hti).inf
   have hz := Ze6 (ρ := ρ) _ _ hz2
   split at h
   ·rename_i fs hfs
    split at h
    ·rename_i ps hps
     split at h
     ·rename_i l hl
      cases h
      obtain ⟨pv,ls,g1,g2,g3,_⟩ := fill_ok he _ _ _ _ _ hps hl hz
      refine ⟨_,⟨ls,g2,rfl⟩,⟨fun N ds a ha => ?_⟩⟩
      have hb := run_build (P := P) (t := t) (w := w) (hi := hz1) (hs := (hΓ t ti hti).str fs hfs) (z := z) (cs := z.cells.toList) (by simp) g3
      have e1 : parts.map (fun x => (x.1,a.eval x.2)) = pv.toArray := by rw [← ha.evalps g1]; apply Array.ext'; simp
      simp [execOp,ho,e1,hb]
     ·cases h
    ·cases h
   ·rename_i n el hfs
    split at h
    ·rename_i sz hsz
     split at h
     ·rename_i ps hps
      split at h
      ·rename_i l hl
       cases h
       obtain ⟨pv,ls,g1,g2,g3,_⟩ := fill_ok he _ _ _ _ _ hps hl hz
       have i2 := siz_ok hΓ hsz
       have i1 := (hΓ t ti hti).und
       rw [hfs] at i1
       obtain ⟨i,hi',hz',_,_⟩ := info_parts hz1.inf
       refine ⟨_,⟨ls,g2,rfl⟩,⟨fun N ds a ha => ?_⟩⟩
       have e1 : parts.map (fun x => (x.1,a.eval x.2)) = pv.toArray := by rw [← ha.evalps g1]; apply Array.ext'; simp
       have hq : (zeroValue t).run P w = .ok z w := by simp [zeroValue,typeInfo,hi',hz']
       simp only [Array.toArray_toList] at g3
       simp [execOp,ho,e1,Instr.build,hq,run_underlying i1,Zb0 (n := sz),g3]
      ·cases h
     ·cases h
    ·cases h
   ·cases h
  ·cases h
 ·rename_i t x ho
  split at h
  ·rename_i n el hd
   split at h
   ·rename_i o' off len c hx
    replace h := Zas h; obtain ⟨hle,h⟩ := h
    cases h
    obtain ⟨u,⟨L,hL,_,rfl⟩,hx⟩ := Zbk he hx
    exact ⟨_,⟨L,hL,rfl⟩,Yl_arrayAt (hu := Zb7 hΓ hd) ho hx (Zca hle)⟩
   ·rename_i o' sz k len hx
    replace h := Zas h; obtain ⟨hle,h⟩ := h
    cases h
    obtain ⟨u,⟨L,hL,_,rfl⟩,hx⟩ := Zbk he hx
    exact ⟨_,⟨L,hL,rfl⟩,Yl_arrayAt (hu := Zb7 hΓ hd) ho hx (Zca hle)⟩
   ·cases h
  ·cases h
 ·rename_i b args ts ho
  exact evBuiltin_ok hΓ he ho h
 ·cases h
end
end Cr.Cl
namespace Cr
open Go Go.MapKept
set_option maxRecDepth 10000
class Key (d : TypeDesc) {α : Type} [DecidableEq α] (mk : α → Value) : Prop where
 same : ∀ a b,Instr.sameNow d (mk a) (mk b) = some (decide (a = b))
 isKey : ∀ a,IsKey d (mk a)
 bits : ∀ a n,Instr.sameBits n (mk a) (mk a) = true
instance : Key (.int .i64) (Value.int .i64) := ⟨fun a b => by
 have : (a == b) = decide (a = b) := by by_cases h : a = b <;> simp [h]
 simp [Instr.sameNow,this],fun a => by simp [IsKey],fun a n => by cases n <;> simp [Instr.sameBits]⟩
def mapr {α : Type} (mk : α → Value) (r : Nat) (L : List (α × Value)) : Res := fun h => ∃ (es : Array MapEntry) (clock : Nat),es.toList.map (fun e => (e.key,e.val)) = L.map (fun x => (mk x.1,x.2)) ∧ pts r (.map es clock) h
section
variable {α : Type} [DecidableEq α]
def getM (k : α) : List (α × Value) → Option Value
 | [] => none
 | x :: l => if k = x.1 then some x.2 else getM k l
def setM (k : α) (v : Value) : List (α × Value) → List (α × Value)
 | [] => [(k,v)]
 | x :: l => if k = x.1 then (k,v) :: l else x :: setM k v l
theorem Zfa {d : TypeDesc} {mk : α → Value} [hk : Key d mk] (k : α) : ∀ (L : List (α × Value)) (es : List MapEntry) (i : Nat),es.map (fun e => (e.key,e.val)) = L.map (fun x => (mk x.1,x.2)) →
  ∃ r,Instr.findNow d (mk k) es i = some r ∧ r.map (·.2) = getM k L ∧ (∀ p,r = some p → i ≤ p.1 ∧ ∃ e,es[p.1 - i]? = some e ∧ e.key = mk k ∧ (es.modify (p.1 - i) fun e => { e with key := mk k,val := p.2 }).map (fun e => (e.key,e.val)) = L.map (fun x => (mk x.1,x.2)))
 | [],[],i,_ => ⟨none,rfl,rfl,fun p h => by cases h⟩
 | [],_ :: _,_,h => by simp at h
 | _ :: _,[],_,h => by simp at h
 | x :: L,e :: es,i,h => by
  simp only [List.map_cons,List.cons.injEq,Prod.mk.injEq] at h
  obtain ⟨⟨h1,h2⟩,h3⟩ := h
  unfold Instr.findNow getM
  rw [h1,hk.same]
  by_cases hkx : k = x.1
  ·subst hkx
   refine ⟨some (i,e.val),by simp,by simp [h2],fun p hp => ?_⟩
   cases hp
   exact ⟨Nat.le_refl _,e,by simp,h1,by simp [h2,h3]⟩
  ·obtain ⟨r,g1,g2,g3⟩ := Zfa (d := d) k L es (i + 1) h3
   refine ⟨r,by simp [hkx,g1],by rw [g2,if_neg hkx],fun p hp => ?_⟩
   obtain ⟨h4,e',h5,h6,h7⟩ := g3 p hp
   have e1 : p.1 - i = (p.1 - (i + 1)) + 1 := by omega
   refine ⟨by omega,e',by rw [e1]; simpa using h5,h6,?_⟩
   rw [e1,List.modify_succ_cons,List.map_cons,h7,h1,h2]
   rfl
variable {P : Program} {o : Oper} {σ : Env} {w : World} {x y : Operand} {t kt et : TypeId} {N : Nat} {ds : Md} {K : Env → World → Prop} {mk : α → Value} {dd : TypeDesc}
theorem X_makeMap {β : Type} {d : Nat} {W : World} {F : Nat → Prop} {rs : List Res} (mk : β → Value) (ho : o.op = .makeMap t none) (hd : o.dst = some d) (hN : Nat.blt d N = true) (hS : St W F rs w)
  (hk : ∀ r w',St W F (mapr mk r [] :: rs) w' → K ((d,.map (some r)) :: σ) w') : X P o N ds σ w K := ⟨fun f ha K' Q' hK => by
 unfold Oper.wp
 have hexec : (execOp f.eval o).run P w = .ok (.value (.map (some w.heap.size))) (w.alloc (.map #[] 0)) := by
  have : (Instr.makeMap t none).run P w = .ok (.map (some w.heap.size)) (w.alloc (.map #[] 0)) := rfl
  simp [execOp,ho,this]
 rw [hexec]
 have := hK _ _ _ (ha.put (Zbl hN) (.map (some w.heap.size))) (hk w.heap.size _ ((hS.alloc (.map #[] 0)).head fun h hh => ⟨#[],0,by simp,hh⟩))
 rw [← hd] at this
 exact this⟩
theorem Yl_lookup {r : Nat} {L : List (α × Value)} {k : α} {z : Value} {n m : Nat} (ho : o.op = .lookup t x y false) (hx : ev σ x = some (.map (some r))) (hy : ev σ y = some (mk k)) [hu : Und P t (.map kt et)] [hkt : Und P kt dd] [hK : Key dd mk] [hi : Inf P et z n m]
  (hr : Rd w (mapr mk r L)) : Yl P o σ w ((getM k L).getD z) := ⟨fun N ds f ha => by
 obtain ⟨h,⟨es,clock,hes,rfl⟩,hag⟩ := hr
 have hb : w.heap[r]? = some (.map es clock) := hag r _ (Zbx _ _)
 obtain ⟨q,g1,g2,_⟩ := Zfa (hk := hK) k L es.toList 0 hes
 obtain ⟨i,hi',hz',_⟩ := info_parts hi.inf
 have hc := run_checkKey (P := P) (w := w) hkt.und (hK.isKey k) es.isEmpty 9999
 have hf := run_findKey (P := P) (w := w) hkt.und g1
 have hg : (getObj r).run P w = .ok (.map es clock) w := by simp [getObj,Sem.run,hb]
 simp only [execOp,ho,ha.eval hx,ha.eval hy,Instr.lookup,Sem.run_bind,run_underlying hu.und,hg,hc,hf,Result.andThen_ok,Sem.run_pure]
 rw [← g2]
 cases q <;> simp [zeroValue,typeInfo,hi',hz']⟩
theorem setM_none {k : α} {v : Value} : ∀ {L : List (α × Value)},getM k L = none → setM k v L = L ++ [(k,v)]
 | [],_ => rfl
 | x :: L,h => by
  unfold getM at h
  split at h
  ·cases h
  ·rename_i hne
   simp [setM,hne,setM_none h]
theorem setM_some {k : α} {v : Value} : ∀ (L : List (α × Value)) (es : List MapEntry) (i : Nat),es.map (fun e => (e.key,e.val)) = L.map (fun x => (mk x.1,x.2)) → ∀ [Key dd mk] (j : Nat) (u : Value),Instr.findNow dd (mk k) es i = some (some (j,u)) →
  (es.modify (j - i) fun e => { e with key := mk k,val := v }).map (fun e => (e.key,e.val)) = (setM k v L).map (fun x => (mk x.1,x.2)) ∧ i ≤ j ∧ (es[j - i]?).map (·.key) = some (mk k)
 | [],[],i,_,_,j,u,h => by simp [Instr.findNow] at h
 | [],_ :: _,_,h,_,_,_,_ => by simp at h
 | _ :: _,[],_,h,_,_,_,_ => by simp at h
 | x :: L,e :: es,i,h,hK,j,u,hf => by
  simp only [List.map_cons,List.cons.injEq,Prod.mk.injEq] at h
  obtain ⟨⟨h1,h2⟩,h3⟩ := h
  unfold Instr.findNow at hf
  rw [h1,hK.same] at hf
  unfold setM
  by_cases hkx : k = x.1
  ·subst hkx
   simp at hf
   obtain ⟨rfl,_⟩ := hf
   simp [h3,h1]
  ·simp [hkx] at hf
   obtain ⟨g1,g2,g3⟩ := setM_some (v := v) L es (i + 1) h3 j u hf
   have e1 : j - i = (j - (i + 1)) + 1 := by omega
   refine ⟨?_,by omega,by rw [e1]; simpa using g3⟩
   rw [e1,List.modify_succ_cons,List.map_cons,g1,if_neg hkx,h1,h2]
   rfl
theorem X_mapUpdate {r : Nat} {L : List (α × Value)} {k : α} {v : Value} {W : World} {F : Nat → Prop} {rs : List Res} {z : Operand} (ho : o.op = .mapUpdate t x y z) (hx : ev σ x = some (.map (some r))) (hy : ev σ y = some (mk k)) (hz : ev σ z = some v) [hu : Und P t (.map kt et)] [hkt : Und P kt dd] [hK : Key dd mk]
  (hd : o.dst = none) (hS : St W F (mapr mk r L :: rs) w) (hk : ∀ w',St W F (mapr mk r (setM k v L) :: rs) w' → K σ w') : X P o N ds σ w K := ⟨fun f ha K' Q' hKK => by
 obtain ⟨h,⟨h1,h2,⟨es,clock,hes,hp⟩,hs,hdj,hun⟩,s⟩ := hS
 have hS2 : St W F (pts r (.map es clock) :: rs) w := ⟨h,⟨h1,h2,hp,hs,hdj,hun⟩,s⟩
 have hb : w.heap[r]? = some (.map es clock) := hS2.get
 obtain ⟨q,g1,g2,_⟩ := Zfa (hk := hK) k L es.toList 0 hes
 have hc := run_checkKey (P := P) (w := w) hkt.und (hK.isKey k) false 9999
 have hf := run_findKey (P := P) (w := w) hkt.und g1
 have hg : (getObj r).run P w = .ok (.map es clock) w := by simp [getObj,Sem.run,hb]
 have hset : ∀ o',(setObj r o').run P w = .ok () { w with heap := w.heap.setIfInBounds r o' } := fun o' => run_setObj_map o' hb
 unfold Oper.wp
 have key : ∃ es' clock',(execOp f.eval o).run P w = .ok .skip { w with heap := w.heap.setIfInBounds r (.map es' clock') } ∧ es'.toList.map (fun e => (e.key,e.val)) = (setM k v L).map (fun x => (mk x.1,x.2)) := by
  cases hq : q with
  | none =>
   subst hq
   refine ⟨es.push { key := mk k,val := v,born := clock },clock + 1,?_,?_⟩
   ·simp only [execOp,ho,ha.eval hx,ha.eval hy,ha.eval hz,Instr.mapUpdate,Sem.run_bind,run_underlying hu.und,hg,hc,hf,hset,Result.andThen_ok,Sem.run_pure]
   ·rw [setM_none (by rw [← g2]; rfl)]
    simp [hes]
  | some p =>
   obtain ⟨j,u⟩ := p
   subst hq
   obtain ⟨g4,g5,g6⟩ := setM_some (v := v) L es.toList 0 hes j u g1
   simp only [Nat.sub_zero] at g4 g6
   have hek : ((es[j]?).map (·.key)).getD (mk k) = mk k := by
    rw [← Array.getElem?_toList,g6]; rfl
   refine ⟨es.modify j fun e => { e with key := mk k,val := v },clock,?_,?_⟩
   ·simp only [execOp,ho,ha.eval hx,ha.eval hy,ha.eval hz,Instr.mapUpdate,Sem.run_bind,run_underlying hu.und,hg,hc,hf,hset,Result.andThen_ok,Sem.run_pure,hek,Instr.keyThatStays,hK.bits,if_true]
   ·simpa [Array.toList_modify] using g4
 obtain ⟨es',clock',hexec,hes'⟩ := key
 rw [hexec]
 have u := Zcc (o' := .map es' clock') hb
 refine hKK _ _ _ (?_ : Fr σ N ds _) (hk _ ((hS2.set u).head fun h hh => ⟨es',clock',hes',hh⟩))
 rw [hd]; exact ha⟩
end
end Cr
namespace Cr
open Go Go.MapKept
set_option maxRecDepth 10000

structure StampOk (es : Array MapEntry) (clock : Nat) : Prop where
 low : ∀ e ∈ es.toList,e.born < clock
 apart : (es.toList.map (·.born)).Nodup
def kvs (es : Array MapEntry) : List (Value × Value) := es.toList.map fun e => (e.key,e.val)
def mapq {α : Type} (mk : α → Value) (r : Nat) (L : List (α × Value)) : Res := fun h => ∃ (es : Array MapEntry) (clock : Nat),kvs es = L.map (fun x => (mk x.1,x.2)) ∧ StampOk es clock ∧ pts r (.map es clock) h
section
variable {α : Type}
theorem St.openMap {W : World} {F : Nat → Prop} {mk : α → Value} {r : Nat} {L : List (α × Value)} {rs : List Res} {w : World} (hS : St W F (mapq mk r L :: rs) w) : ∃ es clock,kvs es = L.map (fun x => (mk x.1,x.2)) ∧ StampOk es clock ∧ St W F (pts r (.map es clock) :: rs) w := by
 obtain ⟨h,⟨h1,h2,⟨es,clock,a,b,hp⟩,hs,hd,hu⟩,s⟩ := hS
 exact ⟨es,clock,a,b,h,⟨h1,h2,hp,hs,hd,hu⟩,s⟩
theorem Ro.openMap {W : World} {F : Nat → Prop} {mk : α → Value} {r : Nat} {L : List (α × Value)} (H : Ro W F (mapq mk r L)) : ∃ es clock,kvs es = L.map (fun x => (mk x.1,x.2)) ∧ StampOk es clock ∧ Ro W F (pts r (.map es clock)) := by
 obtain ⟨h,⟨es,clock,a,b,hp⟩,ha⟩ := H
 exact ⟨es,clock,a,b,h,hp,ha⟩
theorem Rd.openMap {w : World} {mk : α → Value} {r : Nat} {L : List (α × Value)} (H : Rd w (mapq mk r L)) : ∃ es clock,kvs es = L.map (fun x => (mk x.1,x.2)) ∧ StampOk es clock ∧ Rd w (Cr.pts r (.map es clock)) := by
 obtain ⟨h,⟨es,clock,a,b,hp⟩,ha⟩ := H
 exact ⟨es,clock,a,b,h,hp,ha⟩
theorem Rd.mapq_r {w : World} {mk : α → Value} {r : Nat} {L : List (α × Value)} (H : Rd w (mapq mk r L)) : Rd w (mapr mk r L) := by
 obtain ⟨h,⟨es,clock,a,b,hp⟩,ha⟩ := H
 exact ⟨h,⟨es,clock,a,hp⟩,ha⟩
end
def delM {α : Type} [DecidableEq α] (k : α) : List (α × Value) → List (α × Value)
 | [] => []
 | x :: l => if k = x.1 then l else x :: delM k l
section
variable {α : Type} [DecidableEq α]
theorem findNow_del {d : TypeDesc} {mk : α → Value} [hk : Key d mk] (k : α) : ∀ (L : List (α × Value)) (es : List MapEntry) (i : Nat),es.map (fun e => (e.key,e.val)) = L.map (fun x => (mk x.1,x.2)) →
  (Instr.findNow d (mk k) es i = some none ∧ delM k L = L) ∨ ∃ j v,Instr.findNow d (mk k) es i = some (some (j,v)) ∧ i ≤ j ∧ j - i < es.length ∧ (es.eraseIdx (j - i)).map (fun e => (e.key,e.val)) = (delM k L).map (fun x => (mk x.1,x.2))
 | [],[],i,_ => .inl ⟨rfl,rfl⟩
 | [],_ :: _,_,h => by simp at h
 | _ :: _,[],_,h => by simp at h
 | x :: L,e :: es,i,h => by
  simp only [List.map_cons,List.cons.injEq,Prod.mk.injEq] at h
  obtain ⟨⟨h1,h2⟩,h3⟩ := h
  unfold Instr.findNow delM
  rw [h1,hk.same]
  by_cases hkx : k = x.1
  ·right
   exact ⟨i,e.val,by simp [hkx],Nat.le_refl _,by simp,by simp [hkx,h3]⟩
  ·rcases findNow_del (d := d) k L es (i + 1) h3 with ⟨g1,g2⟩ | ⟨j,v,g1,g2,g4,g3⟩
   ·left
    exact ⟨by simp [hkx,g1],by simp [hkx,g2]⟩
   ·right
    have e1 : j - i = (j - (i + 1)) + 1 := by omega
    refine ⟨j,v,by simp [hkx,g1],by omega,by simp; omega,?_⟩
    rw [e1,List.eraseIdx_cons_succ,List.map_cons,g3,if_neg hkx,h1,h2]
    rfl
variable {P : Program} {o : Oper} {σ : Env} {w : World} {x y : Operand} {t kt et : TypeId} {N : Nat} {ds : Md} {K : Env → World → Prop} {mk : α → Value} {dd : TypeDesc}
theorem X_makeMapQ {β : Type} {d : Nat} {W : World} {F : Nat → Prop} {rs : List Res} (mk : β → Value) (ho : o.op = .makeMap t none) (hd : o.dst = some d) (hN : Nat.blt d N = true) (hS : St W F rs w)
  (hk : ∀ r w',St W F (mapq mk r [] :: rs) w' → K ((d,.map (some r)) :: σ) w') : X P o N ds σ w K := ⟨fun f ha K' Q' hK => by
 unfold Oper.wp
 have hexec : (execOp f.eval o).run P w = .ok (.value (.map (some w.heap.size))) (w.alloc (.map #[] 0)) := by
  have : (Instr.makeMap t none).run P w = .ok (.map (some w.heap.size)) (w.alloc (.map #[] 0)) := rfl
  simp [execOp,ho,this]
 rw [hexec]
 have := hK _ _ _ (ha.put (Zbl hN) (.map (some w.heap.size))) (hk w.heap.size _ ((hS.alloc (.map #[] 0)).head fun h hh => ⟨#[],0,rfl,⟨by simp,by simp⟩,hh⟩))
 rw [← hd] at this
 exact this⟩
theorem Yl_lookupOk {r : Nat} {L : List (α × Value)} {k : α} {z : Value} {n m : Nat} (ho : o.op = .lookup t x y true) (hx : ev σ x = some (.map (some r))) (hy : ev σ y = some (mk k)) [hu : Und P t (.map kt et)] [hkt : Und P kt dd] [hK : Key dd mk] [hi : Inf P et z n m]
  (hr : Rd w (mapr mk r L)) : Yl P o σ w (.tuple #[(getM k L).getD z,.bool (getM k L).isSome]) := ⟨fun N ds f ha => by
 obtain ⟨h,⟨es,clock,hes,rfl⟩,hag⟩ := hr
 have hb : w.heap[r]? = some (.map es clock) := hag r _ (Zbx _ _)
 obtain ⟨q,g1,g2,_⟩ := Zfa (hk := hK) k L es.toList 0 hes
 obtain ⟨i,hi',hz',_⟩ := info_parts hi.inf
 have hc := run_checkKey (P := P) (w := w) hkt.und (hK.isKey k) es.isEmpty 9999
 have hf := run_findKey (P := P) (w := w) hkt.und g1
 have hg : (getObj r).run P w = .ok (.map es clock) w := by simp [getObj,Sem.run,hb]
 simp only [execOp,ho,ha.eval hx,ha.eval hy,Instr.lookup,Sem.run_bind,run_underlying hu.und,hg,hc,hf,Result.andThen_ok,Sem.run_pure]
 rw [← g2]
 cases q <;> simp [zeroValue,typeInfo,hi',hz']⟩
theorem stamp_push {es : Array MapEntry} {clock : Nat} (h : StampOk es clock) (k v : Value) : StampOk (es.push { key := k,val := v,born := clock }) (clock + 1) := by
 refine ⟨fun e he => ?_,?_⟩
 ·simp only [Array.toList_push,List.mem_append,List.mem_singleton] at he
  rcases he with he | rfl
  ·have := h.low e he; omega
  ·exact Nat.lt_succ_self _
 ·rw [Array.toList_push,List.map_append,List.nodup_append]
  refine ⟨h.apart,by simp,fun a ha b hb => ?_⟩
  obtain ⟨e,he,rfl⟩ := List.mem_map.1 ha
  have := h.low e he
  simp at hb
  omega
theorem stamp_modify {es : Array MapEntry} {clock : Nat} (h : StampOk es clock) (j : Nat) (f : MapEntry → MapEntry) (hf : ∀ e,(f e).born = e.born) : StampOk (es.modify j f) clock := by
 have e1 : (es.modify j f).toList.map (·.born) = es.toList.map (·.born) := by
  rw [Array.toList_modify]
  generalize es.toList = l
  induction l generalizing j with
  | nil => simp
  | cons x l ih =>
   cases j with
   | zero => simp [hf]
   | succ j => simp [ih]
 refine ⟨fun e he => ?_,by rw [e1]; exact h.apart⟩
 have : e.born ∈ (es.modify j f).toList.map (·.born) := List.mem_map.2 ⟨e,he,rfl⟩
 rw [e1] at this
 obtain ⟨e',he',hb⟩ := List.mem_map.1 this
 rw [← hb]
 exact h.low e' he'
theorem stamp_erase {es : Array MapEntry} {clock : Nat} (h : StampOk es clock) (j : Nat) (hj : j < es.size) : StampOk (es.eraseIdx j hj) clock := by
 have hsub : (es.eraseIdx j hj).toList.Sublist es.toList := by rw [Array.toList_eraseIdx]; exact List.eraseIdx_sublist _ _
 exact ⟨fun e he => h.low e (hsub.subset he),h.apart.sublist (hsub.map _)⟩
theorem X_mapUpdateQ {r : Nat} {L : List (α × Value)} {k : α} {v : Value} {W : World} {F : Nat → Prop} {rs : List Res} {z : Operand} (ho : o.op = .mapUpdate t x y z) (hx : ev σ x = some (.map (some r))) (hy : ev σ y = some (mk k)) (hz : ev σ z = some v) [hu : Und P t (.map kt et)] [hkt : Und P kt dd] [hK : Key dd mk]
  (hd : o.dst = none) (hS : St W F (mapq mk r L :: rs) w) (hk : ∀ w',St W F (mapq mk r (setM k v L) :: rs) w' → K σ w') : X P o N ds σ w K := ⟨fun f ha K' Q' hKK => by
 obtain ⟨es,clock,hes,hst,hS2⟩ := hS.openMap
 have hb : w.heap[r]? = some (.map es clock) := hS2.get
 obtain ⟨q,g1,g2,_⟩ := Zfa (hk := hK) k L es.toList 0 hes
 have hc := run_checkKey (P := P) (w := w) hkt.und (hK.isKey k) false 9999
 have hf := run_findKey (P := P) (w := w) hkt.und g1
 have hg : (getObj r).run P w = .ok (.map es clock) w := by simp [getObj,Sem.run,hb]
 have hset : ∀ o',(setObj r o').run P w = .ok () { w with heap := w.heap.setIfInBounds r o' } := fun o' => run_setObj_map o' hb
 unfold Oper.wp
 have key : ∃ es' clock',(execOp f.eval o).run P w = .ok .skip { w with heap := w.heap.setIfInBounds r (.map es' clock') } ∧ kvs es' = (setM k v L).map (fun x => (mk x.1,x.2)) ∧ StampOk es' clock' := by
  cases hq : q with
  | none =>
   subst hq
   refine ⟨es.push { key := mk k,val := v,born := clock },clock + 1,?_,?_,stamp_push hst _ _⟩
   ·simp only [execOp,ho,ha.eval hx,ha.eval hy,ha.eval hz,Instr.mapUpdate,Sem.run_bind,run_underlying hu.und,hg,hc,hf,hset,Result.andThen_ok,Sem.run_pure]
   ·rw [setM_none (by rw [← g2]; rfl)]
    have hes' : es.toList.map (fun e => (e.key,e.val)) = L.map (fun x => (mk x.1,x.2)) := hes
    simp [kvs,hes']
  | some p =>
   obtain ⟨j,u⟩ := p
   subst hq
   obtain ⟨g4,g5,g6⟩ := setM_some (v := v) L es.toList 0 hes j u g1
   simp only [Nat.sub_zero] at g4 g6
   have hek : ((es[j]?).map (·.key)).getD (mk k) = mk k := by
    rw [← Array.getElem?_toList,g6]; rfl
   refine ⟨es.modify j fun e => { e with key := mk k,val := v },clock,?_,?_,stamp_modify hst _ _ (fun _ => rfl)⟩
   ·simp only [execOp,ho,ha.eval hx,ha.eval hy,ha.eval hz,Instr.mapUpdate,Sem.run_bind,run_underlying hu.und,hg,hc,hf,hset,Result.andThen_ok,Sem.run_pure,hek,Instr.keyThatStays,hK.bits,if_true]
   ·simpa [kvs,Array.toList_modify] using g4
 obtain ⟨es',clock',hexec,hes',hst'⟩ := key
 rw [hexec]
 have u := Zcc (o' := .map es' clock') hb
 refine hKK _ _ _ (?_ : Fr σ N ds _) (hk _ ((hS2.set u).head fun h hh => ⟨es',clock',hes',hst',hh⟩))
 rw [hd]; exact ha⟩
end
/-! ### going through a map -/
def Zei (es : Array MapEntry) (seen : Array Nat) : List MapEntry := es.toList.filter fun e => !seen.contains e.born
theorem leftL_start (es : Array MapEntry) : Zei es #[] = es.toList := by simp [Zei]
theorem perm_of_nodup (e : MapEntry) : ∀ (l : List MapEntry),(l.map (·.born)).Nodup → e ∈ l → l.Perm (e :: l.filter fun x => !(x.born == e.born))
 | x :: l,hn,he => by
  have hn' : x.born ∉ l.map (·.born) ∧ (l.map (·.born)).Nodup := List.nodup_cons.1 hn
  by_cases hx : x.born = e.born
  ·rcases List.mem_cons.1 he with rfl | he
   ·have : l.filter (fun x => !(x.born == e.born)) = l := List.filter_eq_self.2 fun y hy => by
     have : y.born ≠ e.born := fun q => hn'.1 (by rw [← q]; exact List.mem_map.2 ⟨y,hy,rfl⟩)
     simpa using this
    rw [List.filter_cons_of_neg (by simp),this]
   ·exact absurd (show x.born ∈ l.map (·.born) by rw [hx]; exact List.mem_map.2 ⟨e,he,rfl⟩) hn'.1
  ·have he' : e ∈ l := (List.mem_cons.1 he).resolve_left fun q => hx (by rw [q])
   have ih := perm_of_nodup e l hn'.2 he'
   rw [List.filter_cons_of_pos (by simpa using hx)]
   exact (ih.cons x).trans (.swap _ _ _)
theorem leftL_step {es : Array MapEntry} {clock : Nat} (h : StampOk es clock) {seen : Array Nat} {e : MapEntry} (he : e ∈ Zei es seen) : (Zei es seen).Perm (e :: Zei es (seen.push e.born)) := by
 have hn : ((Zei es seen).map (·.born)).Nodup := h.apart.sublist ((List.filter_sublist ..).map _)
 have h1 := perm_of_nodup e _ hn he
 have h2 : Zei es (seen.push e.born) = (Zei es seen).filter fun x => !(x.born == e.born) := by
  unfold Zei
  rw [List.filter_filter]
  refine List.filter_congr fun x _ => ?_
  have e3 : (x.born == e.born) = decide (x.born = e.born) := by by_cases h : x.born = e.born <;> simp [h]
  simp [e3,Bool.and_comm]
 rw [h2]
 exact h1
section
variable {P : Program} {o : Oper} {σ : Env} {w : World} {x y : Operand} {t kt et : TypeId} {N : Nat} {ds : Md} {K : Env → World → Prop}
theorem run_next_at (w : World) (ty : TypeId) (it bm since c0 : Nat) (seen : Array Nat) (es : Array MapEntry) (clock : Nat) (hi : w.heap[it]? = some (.mapIter (some bm) since seen c0)) (hb : w.heap[bm]? = some (.map es clock)) (hold : ∀ x ∈ es.toList,x.born < since) (hsc : since ≤ c0) :
  (Zei es seen = [] ∧ (Instr.next (.pointer (some ⟨it,0,none⟩)) false ty).run P w = .ok (.tuple #[.bool false]) w) ∨
  ∃ e ∈ Zei es seen,∃ w1 : World,(w1 = w ∨ w1 = w.drew) ∧ (Instr.next (.pointer (some ⟨it,0,none⟩)) false ty).run P w = .ok (.tuple #[.bool true,e.key,e.val]) { w1 with heap := w1.heap.setIfInBounds it (.mapIter (some bm) since (seen.push e.born) clock) } := by
 simp only [Instr.next,getObj,Sem.run_bind,Sem.run,hi,hb,Result.andThen,next_test_false seen es since c0 hold hsc,Bool.false_eq_true,if_false]
 have hLe : Zei es seen = (Array.filter (fun e => !seen.contains e.born) es).toList := by simp [Zei]
 rw [hLe]
 have hmem : ∀ x ∈ (Array.filter (fun e => !seen.contains e.born) es).toList,x.born < since := fun x hx => hold x (by simp at hx ⊢; exact hx.1)
 generalize Array.filter (fun e => !seen.contains e.born) es = L at hmem ⊢
 have e1 : L.filter (fun x => decide (x.born < since)) = L := Array.filter_eq_self.2 (fun x hx => by simpa using hmem x (by simpa using hx))
 have e2 : L.filter (fun x => decide (x.born ≥ since)) = #[] := by
  rw [Array.filter_eq_empty_iff]
  intro x hx
  have := hmem x (by simpa using hx)
  simp
  omega
 simp only [e1,e2,Array.append_empty]
 by_cases h0 : L.size = 0
 ·left
  have : L = #[] := Array.eq_empty_of_size_eq_zero h0
  subst this
  refine ⟨rfl,?_⟩
  simp [choose,Sem.run,Question.forced]
 ·right
  have hne : L.isEmpty = false := by simp [Array.isEmpty,h0]
  simp only [hne,Bool.false_eq_true,if_false,Array.empty_append,Array.size_map]
  have hch : ∃ (j : Nat) (w1 : World),j < L.size ∧ (w1 = w ∨ w1 = w.drew) ∧ (choose (Question.mapNext L.size)).run P w = .ok j w1 := by
   by_cases hf : L.size ≤ 1
   ·exact ⟨0,w,by omega,.inl rfl,by simp [choose,Sem.run,Question.forced,hf]⟩
   ·exact ⟨_,w.drew,Nat.mod_lt _ (by omega),.inr rfl,by
     simp only [choose,Sem.run,Question.forced,decide_eq_true_eq,hf,if_false,Question.cut]
     rfl⟩
  obtain ⟨j,w1,hj,hal,hrun⟩ := hch
  refine ⟨L[j],by simp,w1,hal,?_⟩
  have hi1 : w1.heap[it]? = some (.mapIter (some bm) since seen c0) := by rcases hal with rfl | rfl <;> exact hi
  have hset : ∀ o' : Obj,(setObj it o').run P w1 = .ok () { w1 with heap := w1.heap.setIfInBounds it o' } := fun o' => by simp [setObj,Sem.run,hi1]
  simp only [hrun,Array.getElem?_map,Array.getElem?_eq_getElem hj,Option.map_some,Sem.run_bind,hset,Result.andThen]
  rfl
theorem X_rangeMap {bm d : Nat} {es : Array MapEntry} {clock : Nat} {W : World} {F : Nat → Prop} {rs : List Res} (ho : o.op = .range t x) (hx : ev σ x = some (.map (some bm))) [hu : Und P t (.map kt et)] (hm : Rd w (pts bm (.map es clock))) (hd : o.dst = some d) (hN : Nat.blt d N = true) (hS : St W F rs w)
  (hk : ∀ it w',St W F (pts it (.mapIter (some bm) clock #[] clock) :: rs) w' → RowKit.Below w.heap.size w w' → K ((d,.pointer (some ⟨it,0,none⟩)) :: σ) w') : X P o N ds σ w K := ⟨fun f ha K' Q' hK => by
 have hb : w.heap[bm]? = some (.map es clock) := by obtain ⟨h,rfl,hag⟩ := hm; exact hag bm _ (Zbx _ _)
 unfold Oper.wp
 have hexec : (execOp f.eval o).run P w = .ok (.value (.pointer (some ⟨w.heap.size,0,none⟩))) (w.alloc (.mapIter (some bm) clock #[] clock)) := by
  simp [execOp,ho,ha.eval hx,run_range_map w t kt et bm es clock hu.und hb]
 rw [hexec]
 have := hK _ _ _ (ha.put (Zbl hN) (.pointer (some ⟨w.heap.size,0,none⟩))) (hk w.heap.size _ (hS.alloc _) ((RowKit.Below.refl _ _).alloc (Nat.le_refl _) _))
 rw [← hd] at this
 exact this⟩
theorem X_nextMap {it bm d : Nat} {es : Array MapEntry} {clock : Nat} {seen : Array Nat} {W : World} {F : Nat → Prop} {rs : List Res} (ho : o.op = .next x false) (hx : ev σ x = some (.pointer (some ⟨it,0,none⟩))) (hst : StampOk es clock) (hm : Rd w (pts bm (.map es clock))) (hd : o.dst = some d) (hN : Nat.blt d N = true)
  (hS : St W F (pts it (.mapIter (some bm) clock seen clock) :: rs) w) (h0 : Zei es seen = [] → K ((d,.tuple #[.bool false]) :: σ) w)
  (h1 : ∀ e,e ∈ Zei es seen → ∀ w',St W F (pts it (.mapIter (some bm) clock (seen.push e.born) clock) :: rs) w' → K ((d,.tuple #[.bool true,e.key,e.val]) :: σ) w') : X P o N ds σ w K := ⟨fun f ha K' Q' hK => by
 have hb : w.heap[bm]? = some (.map es clock) := by obtain ⟨h,rfl,hag⟩ := hm; exact hag bm _ (Zbx _ _)
 have hi : w.heap[it]? = some (.mapIter (some bm) clock seen clock) := hS.get
 unfold Oper.wp
 rcases run_next_at (P := P) w o.type it bm clock clock seen es clock hi hb hst.low (Nat.le_refl _) with ⟨g1,g2⟩ | ⟨e,he,w1,hw1,g2⟩
 ·have hexec : (execOp f.eval o).run P w = .ok (.value (.tuple #[.bool false])) w := by
   simp [execOp,ho,ha.eval hx,g2]
  rw [hexec]
  have := hK _ _ _ (ha.put (Zbl hN) (.tuple #[.bool false])) (h0 g1)
  rw [← hd] at this
  exact this
 ·have hexec : (execOp f.eval o).run P w = .ok (.value (.tuple #[.bool true,e.key,e.val])) { w1 with heap := w1.heap.setIfInBounds it (.mapIter (some bm) clock (seen.push e.born) clock) } := by
   simp [execOp,ho,ha.eval hx,g2]
  rw [hexec]
  have hS1 : St W F (pts it (.mapIter (some bm) clock seen clock) :: rs) w1 := by
   rcases hw1 with rfl | rfl
   ·exact hS
   ·exact hS.drew
  have := hK _ _ _ (ha.put (Zbl hN) (.tuple #[.bool true,e.key,e.val])) (h1 e he _ (hS1.set (Zcc (o' := .mapIter (some bm) clock (seen.push e.born) clock) hS1.get)))
  rw [← hd] at this
  exact this⟩
end
end Cr
namespace Cr.Cl
open Go Go.MapKept
set_option maxRecDepth 4000
section
variable {P : Program} {Γ : Ctx} {Ω : Opq} {ρ : Rho} {o : Oper} {σ : Env} {w : World} {e : Envs} {h : Heap}

def HeapRd (Ω : Opq) (ρ : Rho) (h : Heap) (w : World) : Prop := ∀ n ob,h.get n = some ob → Rd w (resO Ω ρ n ob)
theorem row_of_pts {b : Nat} {vs : List Value} {t : TypeId} {g : Frag} (hp : pts b (.cells vs.toArray t (0,0)) g) : row (some ⟨b,0,none⟩) vs g :=
 .inr ⟨b,0,vs.toArray,t,_,rfl,hp,fun i v hv => by simpa using hv⟩
theorem rowOf_ok (hR : HeapRd Ω ρ h w) {n : Nat} {c : List SV} (hc : rowOf h n = some c) : ∃ L vs,ρ n = some L ∧ RepL ρ c vs ∧ Rd w (row (some ⟨L.1,0,none⟩) vs) := by
 unfold rowOf at hc
 split at hc
 ·rename_i t c' hg; cases hc
  obtain ⟨g,⟨L,vs,h1,h2,h3⟩,ha⟩ := hR _ _ hg
  exact ⟨L,vs,h1,h2,g,row_of_pts h3,ha⟩
 ·rename_i t sz c' hg; cases hc
  obtain ⟨g,⟨L,vs,h1,h2,h3⟩,ha⟩ := hR _ _ hg
  exact ⟨L,vs,h1,h2,g,h3.row,ha⟩
 ·rename_i c' hg; cases hc
  obtain ⟨g,⟨L,vs,h1,h2,h3⟩,ha⟩ := hR _ _ hg
  exact ⟨L,vs,h1,h2,g,h3,ha⟩
 ·cases hc
theorem loadS_ok (hΓ : Zdv P Γ) (hR : HeapRd Ω ρ h w) {t : TypeId} {n off : Nat} {s : SV} (hl : loadS Γ h t n off = some s) : ∃ L v,ρ n = some L ∧ Rep ρ s v ∧ (loadVar t ⟨L.1,off,none⟩).run P w = .ok v w := by
 unfold loadS at hl
 split at hl
 ·rename_i c hc
  obtain ⟨L,vs,hL,hv,hr⟩ := rowOf_ok hR hc
  unfold part at hl
  split at hl
  ·rename_i i hi
   have hT := hΓ t i hi
   have hs : Siz P t i.size := siz_of hΓ hi
   rcases Zb9 hl with ⟨hb,hl⟩ | ⟨hb,hl⟩
   ·replace hl := Zas hl; obtain ⟨hle,hl⟩ := hl; cases hl
    have hle := Zca hle
    have hlen : ((vs.drop off).take i.size).length = i.size := by simp [RepL.length hv]; omega
    refine ⟨L,.agg ((vs.drop off).take i.size).toArray,hL,⟨_,RepL.seg hv off i.size,rfl⟩,?_⟩
    have hc := hr.seg off i.size
    simp only [adr,Nat.zero_add] at hc
    have : Siz P t ((vs.drop off).take i.size).length := by rw [hlen]; exact hs
    exact run_loadAgg (h := ⟨fun w => by rw [hT.agg w,hb]⟩) (hs := this) hc
   ·obtain ⟨v,h1,h2⟩ := RepL.get hv hl
    refine ⟨L,v,hL,h2,?_⟩
    have hc := hr.cells off v h1
    simp only [adr,Nat.zero_add] at hc
    have := hT.agg w
    rw [hb] at this
    simp [loadVar,this,load,Sem.run,hc]
  ·cases hl
 ·cases hl
theorem keq_ok {d : TypeDesc} {k a : SV} {kv av : Value} {b : Bool} (hk : Rep ρ k kv) (ha : Rep ρ a av) (h : keq d k a = some b) : Instr.sameNow d kv av = some b := by
 unfold keq at h
 split at h
 ·replace h := Zas h; obtain ⟨h1,h⟩ := h
  have := ikeq_ok h1; subst this
  cases h; cases hk; cases ha
  rw [ieq_ok]
  simp only [Instr.sameNow,if_true]
  congr 1
 ·cases h; obtain ⟨h1,rfl⟩ := hk; obtain ⟨h2,rfl⟩ := ha
  rw [bs_str,bs_str]
  have e : ∀ x y : List UInt8,(x == y) = decide (x = y) := fun x y => by by_cases q : x = y <;> simp [q]
  simp only [Instr.sameNow,Go.beq_toListBytes,str_toList,← bsmap_eq h1 h2,e]
 ·cases h; cases hk; cases ha; rfl
 ·cases h
theorem keyOk_ok {d : TypeDesc} {k : SV} {kv : Value} (hk : Rep ρ k kv) (h : keyOk d k = true) : IsKey d kv := by
 unfold keyOk at h
 split at h
 ·cases hk; exact ikeq_ok h
 ·obtain ⟨_,rfl⟩ := hk; trivial
 ·cases hk; trivial
 ·cases h
theorem findK_ok {d : TypeDesc} {k : SV} {kv : Value} (hk : Rep ρ k kv) : ∀ (es : List (SV × SV × Nat)) (l : List MapEntry) (i : Nat) (r : Option SV),RepE ρ es l → findK d k es = some r →
  (r = none ∧ Instr.findNow d kv l i = some none) ∨ ∃ s j u,r = some s ∧ Rep ρ s u ∧ Instr.findNow d kv l i = some (some (i + j,u)) ∧ j < l.length
 | [],l,i,r,he,h => by
  cases he
  simp only [findK,Option.some.injEq] at h; subst h
  exact .inl ⟨rfl,rfl⟩
 | (a,v,n) :: es,l,i,r,⟨e,l',h1,h2,h3,h4,hl⟩,h => by
  subst hl
  simp only [findK] at h
  split at h
  ·rename_i hq; cases h
   have := keq_ok hk h1 hq
   exact .inr ⟨v,0,e.val,rfl,h2,by simp [Instr.findNow,this],by simp⟩
  ·rename_i hq
   have := keq_ok hk h1 hq
   rcases findK_ok hk es l' (i + 1) r h4 h with ⟨g1,g2⟩ | ⟨s,j,u,g1,g2,g3,g4⟩
   ·exact .inl ⟨g1,by simp [Instr.findNow,this,g2]⟩
   ·refine .inr ⟨s,j + 1,u,g1,g2,?_,by simp; omega⟩
    simp only [Instr.findNow,this,g3]
    rw [show i + 1 + j = i + (j + 1) by omega]
  ·cases h
theorem entriesOf_ok (hR : HeapRd Ω ρ h w) {v : SV} {u : Value} (hu : Rep ρ v u) {es : List (SV × SV × Nat)} (he : entriesOf h v = some es) : (u = .map none ∧ es = []) ∨ ∃ r l cl,u = .map (some r) ∧ RepE ρ es l ∧ w.heap[r]? = some (.map l.toArray cl) := by
 unfold entriesOf at he
 split at he
 ·cases he; cases hu; exact .inl ⟨rfl,rfl⟩
 ·rename_i n
  split at he
  ·rename_i es' cl hg
   cases he
   obtain ⟨L,hL,rfl⟩ := hu
   obtain ⟨g,⟨L',l,h1,h2,h3⟩,ha⟩ := hR _ _ hg
   rw [hL] at h1; cases h1
   exact .inr ⟨L.1,l,cl,rfl,h2,ha _ _ (by rw [h3]; exact Zbx _ _)⟩
  ·cases he
 ·cases he
theorem segOf_ok (hR : HeapRd Ω ρ h w) {sz n : Nat} {v : SV} {a : Option Addr} {m c : Nat} (hu : Rep ρ v (.slice a m c)) {cs : List SV} (hs : segOf h sz n v = some cs) : ∃ vs,RepL ρ cs vs ∧ vs.length = n * sz ∧ Rd w (row a vs) := by
 have key : ∀ (o off : Nat) (L : Nat × Nat),ρ o = some L → a = some ⟨L.1,off,none⟩ → (match rowOf h o with | some c => bif Nat.ble (off + n * sz) c.length then some (seg c off (n * sz)) else none | none => none) = some cs → ∃ vs,RepL ρ cs vs ∧ vs.length = n * sz ∧ Rd w (row a vs) := by
  intro o off L hL ha hs
  subst ha
  split at hs
  ·rename_i c' hc
   replace hs := Zas hs; obtain ⟨hle,hs⟩ := hs; cases hs
   have hle := Zca hle
   obtain ⟨L',vs,h1,h2,h3⟩ := rowOf_ok hR hc
   rw [hL] at h1; cases h1
   refine ⟨_,RepL.seg h2 off (n * sz),by simp [RepL.length h2]; omega,h3.mono ?_⟩
   have := row.part (a := some ⟨L.1,0,none⟩) (cs := vs) (cs' := (vs.drop off).take (n * sz)) (i := off) (fun j v hv => by
    rw [List.getElem?_take] at hv; split at hv
    ·simpa using hv
    ·cases hv)
   simpa [adr] using this
  ·cases hs
 unfold segOf at hs
 split at hs
 ·replace hs := Zas hs; obtain ⟨h0,hs⟩ := hs; cases hs
  have := Zcb h0; subst this
  exact ⟨[],rfl,by simp,Rd_nil _ _⟩
 ·replace hs := Zas hs; obtain ⟨h0,hs⟩ := hs; cases hs
  have := Zcb h0; subst this
  exact ⟨[],rfl,by simp,Rd_nil _ _⟩
 ·obtain ⟨L,hL,_,hq⟩ := hu
  cases hq
  exact key _ _ L hL rfl hs
 ·replace hs := Zas hs; obtain ⟨h0,hs⟩ := hs
  have := Zcb h0; subst this
  obtain ⟨L,hL,_,hq⟩ := hu
  cases hq
  exact key _ _ L hL rfl hs
 ·cases hs
theorem byteList_ok : ∀ (c : List SV) (l : List Nat) (vs : List Value),byteList c = some l → RepL ρ c vs → (∀ x ∈ l,x < 256) ∧ vs = bv (l.map UInt8.ofNat)
 | [],l,vs,h,hv => by
  simp only [byteList,Option.some.injEq] at h; subst h; cases hv
  exact ⟨fun _ hx => (List.not_mem_nil hx).elim,rfl⟩
 | x :: r,l,vs,h,⟨v,l',h1,h2,hl⟩ => by
  subst hl
  unfold byteList at h
  split at h
  ·rename_i q; cases q
  ·rename_i n r' q
   cases q
   replace h := Zas h; obtain ⟨hn,h⟩ := h
   have hn := Zcr hn
   split at h
   ·rename_i l2 hl2
    cases h
    obtain ⟨g1,g2⟩ := byteList_ok r l2 l' hl2 h2
    cases h1
    refine ⟨fun y hy => ?_,?_⟩
    ·rcases List.mem_cons.1 hy with rfl | hy
     ·exact hn
     ·exact g1 y hy
    ·rw [g2]; simp [bv,Nat.mod_eq_of_lt hn]
   ·cases h
  ·cases h
theorem zeroV_ok (hΓ : Zdv P Γ) {t : TypeId} {ti : TI} (hti : Γ.ty.get t = some ti) {z : SV} (h : zeroV ti = some z) : ∃ u,Rep ρ z u ∧ (zeroValue t).run P w = .ok u w := by
 obtain ⟨u,h1,h2,h3,h4⟩ := (hΓ t ti hti).inf
 obtain ⟨i,hi',hz',_⟩ := info_parts h1.inf
 have hq : (zeroValue t).run P w = .ok u w := by simp [zeroValue,typeInfo,hi',hz']
 refine ⟨u,?_,hq⟩
 unfold zeroV at h
 have hz := Ze6 (ρ := ρ) _ _ h2
 rcases Zb9 h with ⟨hb,h⟩ | ⟨hb,h⟩
 ·cases h
  obtain ⟨l,rfl⟩ := h3 hb
  exact ⟨l.toList,by simpa [Value.cells] using hz,by simp⟩
 ·split at h
  ·rename_i v hv
   cases h
   rw [h4 hb,hv] at hz
   obtain ⟨x,l',q1,q2,q3⟩ := hz
   simp at q3
   obtain ⟨rfl,_⟩ := q3
   exact q1
  ·cases h
theorem readOp_ok (hΓ : Zdv P Γ) (he : EnvR ρ e σ) (hR : HeapRd Ω ρ h w) {s : SV} (hs : Zft Γ e h o.op = some s) : Gives P ρ o σ w s := by
 unfold Zft at hs
 split at hs
 ·rename_i t x ho
  split at hs
  ·rename_i n off hx
   obtain ⟨u,⟨L,hL,rfl⟩,hx⟩ := Zbk he hx
   obtain ⟨L',v,h1,h2,h3⟩ := loadS_ok hΓ hR hs
   rw [hL] at h1; cases h1
   exact ⟨v,h2,⟨fun N ds a ha => by simp [execOp,ho,ha.eval hx,Instr.loadAt,Instr.sureAddr,h3]⟩⟩
  ·cases hs
 ·rename_i t x k ok ho
  split at hs
  ·rename_i kt el hd
   split at hs
   ·rename_i d hdk
    split at hs
    ·rename_i ti hti
     split at hs
     ·rename_i z hz
      split at hs
      ·rename_i v hv
       split at hs
       ·rename_i k' hk
        split at hs
        ·rename_i es hes
         obtain ⟨u,hu,hx⟩ := Zbk he hv
         obtain ⟨kv,hkv,hy⟩ := Zbk he hk
         obtain ⟨zu,hz1,hz2⟩ := zeroV_ok (w := w) hΓ hti hz
         have i1 := (Zb7 hΓ hd).und
         have i2 := (Zb7 hΓ hdk).und
         unfold findKey at hs
         have main : ∀ (l : List MapEntry) (r : Option SV),RepE ρ es l → (bif keyOk d k' then findK d k' es else none) = some r →
           (∀ N ds a,Fr σ N ds a → ∀ q,(Instr.findKey kt kv l).run P w = .ok q w → (∀ b,(Instr.checkKey b 10000 kt kv).run P w = .ok () w) → (execOp a.eval o).run P w = .ok (.value (if ok then .tuple #[(q.map (·.2)).getD zu,.bool q.isSome] else (q.map (·.2)).getD zu)) w) →
           Gives P ρ o σ w (match r with | some v => (bif ok then .tup [v,.b true] else v) | none => (bif ok then .tup [z,.b false] else z)) := by
          intro l r hl hr hrun
          replace hr := Zas hr; obtain ⟨hko,hr⟩ := hr
          have hck : ∀ b,(Instr.checkKey b 10000 kt kv).run P w = .ok () w := fun b => run_checkKey (n := 9999) i2 (keyOk_ok hkv hko) b
          rcases findK_ok hkv es l 0 r hl hr with ⟨rfl,g⟩ | ⟨s',j,u',rfl,g1,g,_⟩
          ·have hf := run_findKey (P := P) (w := w) i2 g
           cases ok
           ·exact ⟨zu,hz1,⟨fun N ds a ha => by rw [hrun N ds a ha _ hf hck]; rfl⟩⟩
           ·exact ⟨.tuple #[zu,.bool false],⟨[zu,.bool false],RepL.cons hz1 (RepL.cons rfl rfl),rfl⟩,⟨fun N ds a ha => by rw [hrun N ds a ha _ hf hck]; rfl⟩⟩
          ·have hf := run_findKey (P := P) (w := w) i2 g
           cases ok
           ·exact ⟨u',g1,⟨fun N ds a ha => by rw [hrun N ds a ha _ hf hck]; rfl⟩⟩
           ·exact ⟨.tuple #[u',.bool true],⟨[u',.bool true],RepL.cons g1 (RepL.cons rfl rfl),rfl⟩,⟨fun N ds a ha => by rw [hrun N ds a ha _ hf hck]; rfl⟩⟩
         have fin : ∃ r,(bif keyOk d k' then findK d k' es else none) = some r ∧ s = (match r with | some v => (bif ok then .tup [v,.b true] else v) | none => (bif ok then .tup [z,.b false] else z)) := by
          split at hs
          ·rename_i v' q; cases hs; exact ⟨some v',q,rfl⟩
          ·rename_i q; cases hs; exact ⟨none,q,rfl⟩
          ·cases hs
         obtain ⟨r,hr,rfl⟩ := fin
         rcases entriesOf_ok hR hu hes with ⟨rfl,rfl⟩ | ⟨q,l,cl,rfl,hl,hb⟩
         ·refine main [] r rfl hr fun N ds a ha q hq hck => ?_
          simp only [execOp,ho,ha.eval hx,ha.eval hy,Instr.lookup,Sem.run_bind,run_underlying i1,hck,hq,Result.andThen_ok,Sem.run_pure]
          cases q <;> cases ok <;> simp [hz2]
         ·refine main l r hl hr fun N ds a ha q' hq hck => ?_
          have hg : (getObj q).run P w = .ok (.map l.toArray cl) w := by simp [getObj,Sem.run,hb]
          simp only [execOp,ho,ha.eval hx,ha.eval hy,Instr.lookup,Sem.run_bind,run_underlying i1,hg,hck,hq,Result.andThen_ok,Sem.run_pure]
          cases q' <;> cases ok <;> simp [hz2]
        ·cases hs
       ·cases hs
      ·cases hs
     ·cases hs
    ·cases hs
   ·cases hs
  ·cases hs
 ·rename_i s' d x ho
  split at hs
  ·rename_i el hds
   split at hs
   ·rename_i hel
    split at hs
    ·rename_i hdd
     split at hs
     ·rename_i v hv
      split at hs
      ·rename_i n hn
       split at hs
       ·rename_i c hc
        split at hs
        ·rename_i l hl
         cases hs
         obtain ⟨u,hu,hx⟩ := Zbk he hv
         obtain ⟨a,cp,rfl,_⟩ := Zd1 hu hn
         obtain ⟨vs,h1,h2,h3⟩ := segOf_ok hR hu hc
         obtain ⟨g1,g2⟩ := byteList_ok c l vs hl h1
         subst g2
         refine ⟨_,⟨g1,rfl⟩,?_⟩
         rw [bs_str]
         exact Yl_bytesStr (hs := Zb7 hΓ hds) (he := Zb7 hΓ hel) (hd := Zb7 hΓ hdd) ho hx h3 (by simpa using h2)
        ·cases hs
       ·cases hs
      ·cases hs
     ·cases hs
    ·cases hs
   ·cases hs
  ·cases hs
 ·rename_i args ts ho
  split at hs
  ·rename_i x t r hargs hts
   split at hs
   ·rename_i kt et hd
    split at hs
    ·rename_i v hv
     split at hs
     ·rename_i es hes
      cases hs
      obtain ⟨u,hu,hx⟩ := Zbk he hv
      refine ⟨_,rfl,⟨fun N ds a ha => ?_⟩⟩
      obtain ⟨c,hc⟩ := Zdt ho (by rw [hargs]; exact evs_one hx) ha
      have hU := (Zb7 hΓ hd).und
      obtain ⟨ts⟩ := ts
      simp only at hts; subst hts
      rw [hc]
      rcases entriesOf_ok hR hu hes with ⟨rfl,rfl⟩ | ⟨q,l,cl,rfl,hl,hb⟩
      ·simp [builtin,Builtin.len_,run_underlying hU,goInt]
      ·have hg : (getObj q).run P w = .ok (.map l.toArray cl) w := by simp [getObj,Sem.run,hb]
       have hlen : ∀ (es : List (SV × SV × Nat)) (l : List MapEntry),RepE ρ es l → l.length = es.length := by
        intro es
        induction es with
        | nil => intro l h; cases h; rfl
        | cons q es ih => intro l h; obtain ⟨k,v,n⟩ := q; obtain ⟨e,l',_,_,_,h4,rfl⟩ := h; simp [ih l' h4]
       simp [builtin,Builtin.len_,run_underlying hU,goInt,hg,hlen es l hl]
     ·cases hs
    ·cases hs
   ·cases hs
  ·cases hs
 ·cases hs
end
end Cr.Cl
namespace Cr.Cl
open Go Go.MapKept
set_option maxRecDepth 4000
section
variable {P : Program} {Γ : Ctx} {Ω : Opq} {ρ : Rho} {o : Oper} {σ : Env} {w : World} {e : Envs} {N : Nat} {ds : Md} {K : Env → World → Prop}
theorem rep_length (z : List SV) : ∀ n,(rep n z).length = n * z.length
 | 0 => by simp [rep]
 | n + 1 => by simp [rep,rep_length z n,Nat.add_mul]; omega
theorem RepL.rep {z : List SV} {zs : List Value} (h : RepL ρ z zs) : ∀ n,RepL ρ (Cl.rep n z) (List.replicate n zs).flatten
 | 0 => RepL.nil
 | n + 1 => by rw [List.replicate_succ,List.flatten_cons]; exact RepL.append h (RepL.rep h n)
theorem rep_get (zs : List Value) : ∀ (n i : Nat),i < n * zs.length → (List.replicate n zs).flatten[i]? = zs[i % zs.length]?
 | 0,i,h => by simp at h
 | n + 1,i,h => by
  rw [List.replicate_succ,List.flatten_cons]
  by_cases q : i < zs.length
  ·rw [List.getElem?_append_left q,Nat.mod_eq_of_lt q]
  ·have h' : i < n * zs.length + zs.length := by rw [Nat.add_mul,Nat.one_mul] at h; exact h
   have h2 : i % zs.length = (i - zs.length) % zs.length := Nat.mod_eq_sub_mod (by omega)
   rw [List.getElem?_append_right (by omega),rep_get zs n (i - zs.length) (by omega),← h2]
theorem range_rep (zs : Array Value) (n : Nat) : (Array.range (n * zs.size)).map (zs[· % zs.size]!) = (List.replicate n zs.toList).flatten.toArray := by
  apply Array.ext'
  apply List.ext_getElem?
  intro i
  by_cases h : i < n * zs.size
  · have h0 : 0 < zs.size := by rcases Nat.eq_zero_or_pos zs.size with q | q; · rw [q] at h; simp at h
                                · exact q
    have hm : i % zs.size < zs.size := Nat.mod_lt _ h0
    have := rep_get zs.toList n i (by simpa using h)
    simp only [Array.length_toList] at this
    rw [show ((List.replicate n zs.toList).flatten.toArray).toList = (List.replicate n zs.toList).flatten from rfl,this]
    simp [h,hm]
  · rw [List.getElem?_eq_none (by simpa using h),List.getElem?_eq_none]
    simp only [List.length_flatten,List.map_replicate,List.sum_replicate_nat]
    simpa using h
theorem X_newSl {T sz a c d : Nat} {l : List Value} {ls : List SV} {W : World} {F : Nat → Prop} {rs : List Res} {n : Nat}
  (hrun : ∀ f,Fr σ N ds f → (execOp f.eval o).run P w = .ok (.value (.slice (some ⟨w.heap.size,0,none⟩) a c)) (w.alloc (.cells l.toArray T)))
  (hac : a ≤ c) (hl : l.length = c * sz) (hc : c ≤ maxLen) (hr : RepL ρ ls l) (hn : ρ n = none) (hd : o.dst = some d) (hN : Nat.blt d N = true) (hS : St W F rs w)
  (hk : ∀ L v w',Rep (ρ.add n L) (Mk.at (.sl a c) n) v → St W F (resO Ω (ρ.add n L) n (.grow T sz ls) :: rs) w' → K ((d,v) :: σ) w') : X P o N ds σ w K := ⟨fun f ha K' Q' hK => by
 unfold Oper.wp
 rw [hrun f ha]
 have := hK _ _ _ (ha.put (Zbl hN) (.slice (some ⟨w.heap.size,0,none⟩) a c)) (hk (w.heap.size,c) _ _ ⟨_,Rho.add_self _ _ _,hac,rfl⟩ ((hS.alloc (.cells l.toArray T)).head fun g hg =>
  ⟨(w.heap.size,c),l,Rho.add_self _ _ _,RepL.mono (Rho.add_le hn) _ _ hr,Zcn hl hc (by simp) g hg⟩))
 rw [← hd] at this
 exact this⟩
theorem allocOp_ok (hΓ : Zdv P Γ) (he : EnvR ρ e σ) {ob : SO} {mk : Mk} (h : allocOp Γ e o.op = some (ob,mk)) {d n : Nat} (hn : ρ n = none) (hd : o.dst = some d) (hN : Nat.blt d N = true) {W : World} {F : Nat → Prop} {rs : List Res} (hS : St W F rs w)
    (hk : ∀ L v w',Rep (ρ.add n L) (mk.at n) v → St W F (resO Ω (ρ.add n L) n ob :: rs) w' → K ((d,v) :: σ) w') : X P o N ds σ w K := by
  unfold allocOp at h
  split at h
  · rename_i t ho
    split at h
    · rename_i ti hti
      cases h
      obtain ⟨z,h1,h2,_,_⟩ := (hΓ t ti hti).inf
      refine Zbc (l := z.cells.toList) ho (h := h1) (hl := ⟨by simp⟩) hd hN hS fun b w' hS' _ => hk (b,0) _ w' ⟨_,Rho.add_self _ _ _,rfl⟩ (hS'.head fun g hg => ⟨(b,0),_,Rho.add_self _ _ _,Ze6 _ _ h2,hg⟩)
    · cases h
  · rename_i t x ho
    split at h
    · rename_i v hv
      cases h
      obtain ⟨u,hu,hx⟩ := Zbk he hv
      refine Zel (l := u.cells.toList) ho hx (hl := ⟨by simp⟩) hd hN hS fun b w' hS' _ => hk (b,0) _ w' ⟨_,Rho.add_self _ _ _,rfl⟩ (hS'.head fun g hg => ⟨(b,0),_,Rho.add_self _ _ _,RepL.mono (Rho.add_le hn) _ _ (Rep.cells hu),hg⟩)
    · cases h
  · rename_i t len parts ho
    split at h
    · rename_i el hdd
      split at h
      · rename_i ti hti
        split at h
        · rename_i ps hps
          replace h := Zas h; obtain ⟨hsm,h⟩ := h
          replace h := Zas h; obtain ⟨hsm2,h⟩ := h
          split at h
          · rename_i l hl
            cases h
            have hsm := Zca hsm
            have hsm2 := Zca hsm2
            obtain ⟨z,h1,h2,_,_⟩ := (hΓ el ti hti).inf
            obtain ⟨i,hi',hz',hsz,hby⟩ := info_parts h1.inf
            have hzs := h1.zs
            obtain ⟨pv,ls,g1,g2,g3,g4⟩ := fill_ok he _ _ _ _ _ hps hl (RepL.rep (Ze6 (ρ := ρ) _ _ h2) len)
            have hu := (Zb7 hΓ hdd).und
            have hzl : ti.zero.length = ti.size := by have := RepL.length (Ze6 (ρ := ρ) _ _ h2); simp at this; omega
            refine X_newSl (T := el) (sz := ti.size) (l := ls) (fun f hf => ?_) (Nat.le_refl _) (by rw [RepL.length g2,g4,rep_length,hzl]) (by simp only [maxLen]; omega) g2 hn hd hN hS hk
            have e1 : parts.map (fun x => (x.1,f.eval x.2)) = pv.toArray := by rw [← hf.evalps g1]; apply Array.ext'; simp
            have hsm3 : ¬ (16777216 < len * ti.size) := by omega
            have hfl : Instr.fill (fun i => some (i * ti.size,ti.size)) ((Array.range (len * ti.size)).map (z.cells[· % z.cells.size]!)) pv = some ls.toArray := by
              rw [← hzs,range_rep]
              rw [← hzs] at g3
              exact g3
            simp only [execOp,ho,e1,Sem.run_bind,Instr.buildSlice,run_underlying hu,Result.andThen_ok,Zb0 (h := siz_of hΓ hti),hsm3,if_false]
            by_cases h00 : len * ti.size = 0
            · have er : (Array.range 0).map (z.cells[· % z.cells.size]!) = #[] := by simp [Array.range]
              have er2 : Array.range 0 = #[] := by simp [Array.range]
              have hlz : ls = [] := by
                apply List.eq_nil_of_length_eq_zero
                rw [RepL.length g2,g4,rep_length,hzl,h00]
              have hfl0 : Instr.fill (fun i => some (i * ti.size,ti.size)) #[] pv = some ls.toArray := by
                rw [h00,er] at hfl; exact hfl
              simp [h00,newRow,er2,hfl0]
            · simp [h00,newRow,zeroValue,typeInfo,hi',hz']
              rw [hfl]
              simp
          · cases h
        · cases h
      · cases h
    · cases h
  · rename_i t r ho
    have hm : (Instr.makeMap t none).run P w = .ok (.map (some w.heap.size)) (w.alloc (.map #[] 0)) := rfl
    have fin : ob = .mp [] 0 → mk = .m → (∀ f,Fr σ N ds f → (execOp f.eval o).run P w = .ok (.value (.map (some w.heap.size))) (w.alloc (.map #[] 0))) → X P o N ds σ w K := by
      rintro rfl rfl hrun
      refine ⟨fun f hf K' Q' hK => ?_⟩
      unfold Oper.wp
      rw [hrun f hf]
      have := hK _ _ _ (hf.put (Zbl hN) (.map (some w.heap.size))) (hk (w.heap.size,0) _ _ ⟨_,Rho.add_self _ _ _,rfl⟩ ((hS.alloc (.map #[] 0)).head fun g hg => ⟨(w.heap.size,0),[],Rho.add_self _ _ _,rfl,hg⟩))
      rw [← hd] at this
      exact this
    split at h
    · cases h
      exact fin rfl rfl fun f hf => by simp [execOp,ho,hm]
    · rename_i x
      split at h
      · rename_i kt et hdd
        split at h
        · rename_i k i hx
          cases h
          obtain ⟨u,hu,hx⟩ := Zbk he hx
          cases hu
          exact fin rfl rfl fun f hf => by
            have hu := (Zb7 hΓ hdd).und
            simp only [execOp,ho,Option.map_some,hf.eval hx,Instr.makeMap,Sem.run_bind,run_underlying hu,Result.andThen_ok,asInt]
            rfl
        · cases h
      · cases h
  · rename_i t l c ho
    split at h
    · rename_i el hdd
      split at h
      · rename_i ti hti
        split at h
        · rename_i k a hx
          split at h
          · rename_i k' b hy
            replace h := Zas h; obtain ⟨h1,h⟩ := h
            replace h := Zas h; obtain ⟨h2,h⟩ := h
            replace h := Zas h; obtain ⟨h3,h⟩ := h
            cases h
            have h1 := Zca h1; have h2 := Zca h2; have h3 := Zca h3
            obtain ⟨u,hu,hx⟩ := Zbk he hx
            obtain ⟨u',hu',hy⟩ := Zbk he hy
            cases hu; cases hu'
            obtain ⟨z,q1,q2,_,_⟩ := (hΓ el ti hti).inf
            obtain ⟨i,hi',hz',hsz,hby⟩ := info_parts q1.inf
            have hzs := q1.zs
            have hu := (Zb7 hΓ hdd).und
            have hr := run_make (P := P) w t el i z hu hi' hz' k k' (.ofNat a) (.ofNat b) (by simp) (by simpa using h1) (by have h2' : ti.bytes * b ≤ 1000000000 := by { rw [Nat.mul_comm]; exact h2 }; have h2'' : ((ti.bytes * b : Nat) : Int) ≤ 1000000000 := Int.ofNat_le.2 h2'; rw [hby]; show (ti.bytes : Int) * ((b : Nat) : Int) ≤ 281474976710656; rw [← Int.natCast_mul]; omega) (by show ((b : Nat) : Int) ≤ 9223372036854775807; omega)
            refine X_newSl (T := el) (sz := ti.size) (l := (List.replicate b z.cells.toList).flatten) (fun f hf => ?_) h1 (by simp [List.length_flatten,hzs]) (by simp only [maxLen]; omega) (RepL.rep (Ze6 _ _ q2) b) hn hd hN hS hk
            have e : madeCells z.cells (b * i.size) = (List.replicate b z.cells.toList).flatten.toArray := by
              rw [hsz,← hzs]; exact range_rep z.cells b
            simp only [Int.ofNat_eq_natCast,Int.toNat_natCast] at hr
            rw [e] at hr
            simp [execOp,ho,hf.eval hx,hf.eval hy,hr]
          · cases h
        · cases h
      · cases h
    · cases h
  · rename_i s' dt x ho
    split at h
    · rename_i hs
      split at h
      · rename_i el hdd
        split at h
        · rename_i hel
          split at h
          · rename_i l hl
            replace h := Zas h; obtain ⟨h1,h⟩ := h
            cases h
            obtain ⟨u,⟨h256,rfl⟩,hx⟩ := Zbk he hl
            refine X_strBytes (s := l.map UInt8.ofNat) (hs := Zb7 hΓ hs) (hd := Zb7 hΓ hdd) (he := Zb7 hΓ hel) ho hx hd hN hS fun b c w' hS' hc => ?_
            simp only [List.length_map] at hc ⊢
            refine hk (b,c) _ w' ⟨(b,c),Rho.add_self _ _ _,by simpa using hc,by simp⟩ (hS'.head fun g hg => ⟨(b,c),_,Rho.add_self _ _ _,?_,hg⟩)
            have key : ∀ l : List Nat,(∀ x ∈ l,x < 256) → RepL (ρ.add n (b,c)) (bytesS l) (bv (l.map UInt8.ofNat)) := by
              intro l
              induction l with
              | nil => intro _; exact RepL.nil
              | cons q l ih =>
                intro hq
                refine RepL.cons ?_ (ih fun x hx => hq x (List.mem_cons_of_mem _ hx))
                have : q < 256 := hq q (List.mem_cons_self ..)
                show Value.int .u8 _ = Value.int .u8 _
                simp [Nat.mod_eq_of_lt this]
            exact key l h256
          · cases h
        · cases h
      · cases h
    · cases h
  · cases h
end
end Cr.Cl
namespace Cr.Cl
open Go Go.MapKept
set_option maxRecDepth 4000
section
variable {P : Program} {Γ : Ctx} {Ω : Opq} {ρ : Rho} {o : Oper} {σ : Env} {w : World} {e : Envs} {N : Nat} {ds : Md} {K : Env → World → Prop}
def putV (d : Option Tmp) (v : Value) (σ : Env) : Env := match d with | some d => (d,v) :: σ | none => σ
def dstOk (N : Nat) (d : Option Tmp) : Prop := ∀ k,d = some k → Nat.blt k N = true
theorem Fr.putV {N : Nat} {ds : Md} {a : Act} (h : Fr σ N ds a) {d : Option Tmp} (hN : dstOk N d) (v : Value) : Fr (Cl.putV d v σ) N ds (a.put d v) := by
 cases d with
 | none => exact h
 | some d => exact h.put (Zbl (hN d rfl)) v
theorem X_exec {v : Value} {w' : World} (hrun : ∀ a,Fr σ N ds a → (execOp a.eval o).run P w = .ok (.value v) w' ∨ ((execOp a.eval o).run P w = .ok .skip w' ∧ v = undef)) (hN : dstOk N o.dst) (h : K (putV o.dst v σ) w') : X P o N ds σ w K := ⟨fun a ha K' Q' hK => by
 unfold Oper.wp
 rcases hrun a ha with hr | ⟨hr,rfl⟩
 ·rw [hr]; exact hK _ _ _ (Fr.putV ha hN v) h
 ·rw [hr]; exact hK _ _ _ (Fr.putV ha hN undef) h⟩
theorem St.heapRd {W : World} {F : Nat → Prop} {h : Heap} {rs : List Res} (hS : St W F (res Ω ρ h ++ rs) w) : HeapRd Ω ρ h w := fun _ _ hg => St.rdO hg hS
theorem storeS_ok {W : World} {F : Nat → Prop} {h h' : Heap} {rs : List Res} (hS : St W F (res Ω ρ h ++ rs) w) {n off : Nat} (hn : n < top) {vs : List SV} {us : List Value} (hv : RepL ρ vs us) {L : Nat × Nat} (hL : ρ n = some L) (hs : storeS h n off vs = some h') :
  us ≠ [] ∧ (∀ u ∈ us,u.oneCell' = true) ∧ ∃ w',(storeCells ⟨L.1,off,none⟩ us 0).run P w = .ok () w' ∧ St W F (res Ω ρ h' ++ rs) w' := by
 unfold storeS at hs
 replace hs := Zas hs; obtain ⟨h1,hs⟩ := hs
 have hall : vs.all one1 = true ∧ us ≠ [] := by
  cases vs with
  | nil => cases h1
  | cons a r => obtain ⟨u,l',_,_,rfl⟩ := hv; exact ⟨h1,by simp⟩
 have h1c := RepL.ones hv hall.1
 refine ⟨hall.2,h1c,?_⟩
 have hlen := RepL.length hv
 split at hs
 ·rename_i t c hg
  replace hs := Zas hs; obtain ⟨hle,hs⟩ := hs; cases hs
  have hle := Zca hle
  obtain ⟨f,⟨f1,f2,⟨L',ws,g1,g2,g3⟩,hs2,hd,hu⟩,s⟩ := St.out hn hg hS
  rw [hL] at g1; cases g1
  have hS2 : St W F (pts L.1 (.cells ws.toArray t (0,0)) :: (res Ω ρ (h.erase n) ++ rs)) w := ⟨f,⟨f1,f2,g3,hs2,hd,hu⟩,s⟩
  have hb := hS2.get
  have hw := RepL.length g2
  have hst := run_storeCells_at P L.1 off t us 0 ws.toArray w hb (by simp; omega) h1c
  simp only [Nat.add_zero] at hst
  have u := Zcl hb (Zbt ws off us).toArray
  refine ⟨_,hst,St.back _ hn hg ((hS2.set u).head fun g hg => ⟨L,Zbt ws off us,hL,RepL.lput g2 hv off,hg⟩)⟩
 ·rename_i t sz c hg
  replace hs := Zas hs; obtain ⟨hle,hs⟩ := hs; cases hs
  have hle := Zca hle
  obtain ⟨f,⟨f1,f2,⟨L',ws,g1,g2,g3⟩,hs2,hd,hu⟩,s⟩ := St.out hn hg hS
  rw [hL] at g1; cases g1
  have hw := RepL.length g2
  have hus : 0 < us.length := List.length_pos_iff.2 hall.2
  obtain ⟨hl1,hcm,⟨h0,_⟩ | ⟨b,cs,hb1,rfl,hcz,ht⟩⟩ := g3
  ·rw [h0,Nat.zero_mul] at hl1; omega
  ·cases hb1
   have hS2 : St W F (pts L.1 (.cells cs t (0,0)) :: (res Ω ρ (h.erase n) ++ rs)) w := ⟨f,⟨_,f2,rfl,hs2,hd,hu⟩,s⟩
   have hb := hS2.get
   have hst := run_storeCells_at P L.1 off t us 0 cs w hb (by rw [hcz]; omega) h1c
   simp only [Nat.add_zero] at hst
   have u := Zcl hb (Zbt cs.toList off us).toArray
   refine ⟨_,hst,St.back _ hn hg ((hS2.set u).head fun g hg => ⟨L,Zbt ws off us,hL,RepL.lput g2 hv off,Zcn (l := Zbt cs.toList off us) (by rw [Zdf (by simp; omega)]; simpa using hcz) hcm ?_ g hg⟩)⟩
   rw [Zdf (by omega)]
   have e1 : cs.toList = ws ++ cs.toList.drop ws.length := by
    have := List.take_append_drop ws.length cs.toList
    rw [ht] at this; exact this.symm
   rw [e1,splice_append (by omega),List.take_append_of_le_length (by rw [Zdf (by omega)]; omega),List.take_of_length_le (by rw [Zdf (by omega)]; omega)]
 ·cases hs

/-! ### append -/
inductive AppArg (P : Program) (el size : Nat) (xt : TypeId) : Value → Nat → List Value → World → Prop where
 | sl {a2 : Option Addr} {m c2 : Nat} {news : List Value} {w : World} {e' : TypeId} (hu : P.underlying xt = some (.slice e')) (hr : Rd w (row a2 news)) (hl : news.length = m * size) : AppArg P el size xt (.slice a2 m c2) m news w
 | zs {k kk : IntKind} {m : Nat} {z : Value} {n b : Nat} {w : World} (hu : P.underlying xt = some (.int kk)) (hz : Inf P el z n b) (hn : n = size) (hm : m * b ≤ 1000000000) (hm2 : m ≤ 1000000000) : AppArg P el size xt (.int k (.ofNat m)) m (List.replicate m z.cells.toList).flatten w
 | st {l : List UInt8} {w : World} (hu : P.underlying xt = some .string) (hs : size = 1) : AppArg P el size xt (.string (str l)) l.length (bv l) w
theorem AppArg.drew {el size xt : Nat} {x : Value} {m : Nat} {news : List Value} (h : AppArg P el size xt x m news w) : AppArg P el size xt x m news w.drew := by
 cases h with
 | sl hu hr hl => exact .sl hu (by obtain ⟨g,hg,ha⟩ := hr; exact ⟨g,hg,ha⟩) hl
 | zs hu hz hn hm hm2 => exact .zs hu hz hn hm hm2
 | st hu hs => exact .st hu hs
theorem zeroCells_rep (z : Array Value) (n : Nat) : Builtin.zeroCells z n = (List.replicate n z.toList).flatten.toArray := by
 unfold Builtin.zeroCells; exact range_rep z n
theorem AppArg.length {el size xt : Nat} {x : Value} {m : Nat} {news : List Value} (h : AppArg P el size xt x m news w) : news.length = m * size := by
 cases h with
 | sl hu hr hl => exact hl
 | zs hu hz hn hm hm2 => have := hz.zs; simp [List.length_flatten,this,hn]
 | st hu hs => subst hs; simp
theorem firstCells_str (l : List UInt8) : (Builtin.firstCells 1 l.length (.string (str l))).run P w = .ok (bv l).toArray w := by
 simp [Builtin.firstCells,bv,str]
theorem append_room {t tx ty el size bytes n m c : Nat} {a : Option Addr} {x : Value} {news : List Value} {z : Value} (hu : P.underlying t = some (.slice el)) (hi : Inf P el z size bytes) (hx : AppArg P el size tx x m news w) (hroom : n + m ≤ c) {w' : World}
  (hst : match a with | some b => (storeCells (b.add (n * size)) news 0).run P w = .ok () w' | none => w' = w) :
  (Builtin.append_ #[t,tx] ty #[.slice a n c,x]).run P w = .ok (.slice a (n + m) c) w' := by
 obtain ⟨i,hi',hz',hsz,hby⟩ := info_parts hi.inf
 subst hsz hby
 cases hx with
 | sl hxu hr hl =>
  have hf := fun c2 => Zb3 (P := P) (size := i.size) (m := m) (c := c2) hr hl
  cases a with
  | none => simp at hst; subst hst; simp [Builtin.append_,run_underlying hu,run_underlying hxu,Go.sizeOf,typeInfo,hi',Builtin.lenOf,hf,hroom]
  | some b => simp at hst; simp [Builtin.append_,run_underlying hu,run_underlying hxu,Go.sizeOf,typeInfo,hi',Builtin.lenOf,hf,hroom,hst]
 | zs hxu hz hn hm hm2 =>
  obtain ⟨i2,hi2,hz2,hsz2,hby2⟩ := info_parts hz.inf
  rw [hi'] at hi2; cases hi2
  rw [hz'] at hz2; cases hz2
  have hwr : IntKind.i64.wrap (m : Int) = m := w64 (by omega) (by omega)
  have h48 : ¬ ((281474976710656 : Int) < (m : Int) * (i.bytes : Int)) := by
   rw [← hby2] at hm
   have : ((m * i.bytes : Nat) : Int) ≤ 1000000000 := Int.ofNat_le.2 hm
   rw [← Int.natCast_mul]; omega
  have hneg : ¬ ((m : Int) < 0) := by omega
  have hzz := hz.zs
  have hzv : ∀ w0,(zeroValue el).run P w0 = .ok z w0 := fun w0 => by simp [zeroValue,typeInfo,hi',hz']
  by_cases h0 : m * i.size = 0
  ·have he : (List.replicate m z.cells.toList).flatten = [] := by
    apply List.eq_nil_of_length_eq_zero
    simp [List.length_flatten,hzz,← hsz2,h0]
   rw [he] at hst
   cases a with
   | none => simp at hst; subst hst; simp [Builtin.append_,run_underlying hu,run_underlying hxu,Go.sizeOf,typeInfo,hi',asInt,asIntOf,hwr,h48,hneg,hroom,h0]
   | some b => simp [Builtin.append_,run_underlying hu,run_underlying hxu,Go.sizeOf,typeInfo,hi',asInt,asIntOf,hwr,h48,hneg,hroom,h0,hst]
  ·cases a with
   | none => simp at hst; subst hst; simp [Builtin.append_,run_underlying hu,run_underlying hxu,Go.sizeOf,typeInfo,hi',asInt,asIntOf,hwr,h48,hneg,hroom,hzv]
   | some b => simp only at hst; simp [Builtin.append_,run_underlying hu,run_underlying hxu,Go.sizeOf,typeInfo,hi',asInt,asIntOf,hwr,h48,hneg,hroom,h0,hzv,zeroCells_rep,hst]
 | st hxu hs =>
  have hf := firstCells_str (P := P) (w := w) ‹List UInt8›
  rw [← hs] at hf
  cases a with
  | none => simp at hst; subst hst; simp [Builtin.append_,run_underlying hu,run_underlying hxu,Go.sizeOf,typeInfo,hi',Builtin.lenOf,Zdy,hf,hroom]
  | some b => simp at hst; simp [Builtin.append_,run_underlying hu,run_underlying hxu,Go.sizeOf,typeInfo,hi',Builtin.lenOf,Zdy,hf,hroom,hst]
theorem append_new {t tx ty el size bytes n m c : Nat} {a : Option Addr} {x : Value} {cs news : List Value} {z : Value} {W : World} {F : Nat → Prop} {rs : List Res} (hu : P.underlying t = some (.slice el)) (hi : Inf P el z size bytes) (hx : AppArg P el size tx x m news w) (hroom : ¬ n + m ≤ c)
  (hS : St W F rs w) (hold : Rd w (row a cs)) (hcs : cs.length = n * size) (hfit : (n + m) * bytes ≤ 140737488355328) (hmax : n + m ≤ maxLen) :
  ∃ b c' w',(Builtin.append_ #[t,tx] ty #[.slice a n c,x]).run P w = .ok (.slice (some ⟨b,0,none⟩) (n + m) c') w' ∧ St W F (own el size (some ⟨b,0,none⟩) c' (cs ++ news) :: rs) w' ∧ n + m ≤ c' := by
 obtain ⟨i,hi',hz',hsz,hby⟩ := info_parts hi.inf
 have hz := hi.zs
 have hlen1 := hx.length
 subst hsz hby
 have hlt : ((n + m : Nat) : Int) ≤ 9223372036854775807 := by simp only [maxLen] at hmax; omega
 have hge : n + m ≤ grownCap w (n + m) c el := grownCap_ge w (n + m) c el
 have hcm : grownCap w (n + m) c el ≤ maxLen := grownCap_le_maxLen w (n + m) c el hmax
 have hmin : ¬ (9223372036854775807 < ((n : Int) + (m : Int))) := by omega
 have h48 : ¬ (281474976710656 < Builtin.nextslicecap (n + m) c * i.bytes) := by have := growslice_fits (show c < n + m by omega) hfit; omega
 have hod : (Builtin.firstCells i.size n (.slice a n c)).run P w.drew = .ok cs.toArray w.drew := Zb3 (P := P) (size := i.size) (by
   obtain ⟨g,hg,ha⟩ := hold; exact ⟨g,hg,ha⟩) hcs
 have hzv : ∀ w0,(zeroValue el).run P w0 = .ok z w0 := fun w0 => by simp [zeroValue,typeInfo,hi',hz']
 let blk := cs.toArray ++ news.toArray ++ Builtin.zeroCells z.cells (grownCap w (n + m) c el - (n + m))
 refine ⟨w.heap.size,grownCap w (n + m) c el,w.drew.alloc (.cells blk el),?_,?_,hge⟩
 ·cases hx.drew with
  | sl hxu hr hl =>
   have hf := fun c2 => Zb3 (P := P) (size := i.size) (m := m) (c := c2) hr hl
   simp [Builtin.append_,run_underlying hu,run_underlying hxu,Go.sizeOf,typeInfo,zeroValue,hi',hz',Builtin.lenOf,hroom,hmin,h48,Question.forced,hod,hf,newRow,grownCap,blk]
  | zs hxu hzz hn hm hm2 =>
   obtain ⟨i2,hi2,hz2,hsz2,hby2⟩ := info_parts hzz.inf
   rw [hi'] at hi2; cases hi2
   rw [hz'] at hz2; cases hz2
   have hwr : IntKind.i64.wrap (m : Int) = m := w64 (by omega) (by omega)
   have h48' : ¬ ((281474976710656 : Int) < (m : Int) * (i.bytes : Int)) := by
    rw [← hby2] at hm
    have : ((m * i.bytes : Nat) : Int) ≤ 1000000000 := Int.ofNat_le.2 hm
    rw [← Int.natCast_mul]; omega
   have hneg : ¬ ((m : Int) < 0) := by omega
   by_cases h0 : m * i.size = 0
   ·have he : (List.replicate m z.cells.toList).flatten = [] := by
     apply List.eq_nil_of_length_eq_zero
     simp [List.length_flatten,hz,h0]
    simp [Builtin.append_,run_underlying hu,run_underlying hxu,Go.sizeOf,typeInfo,hi',asInt,asIntOf,hwr,h48',hneg,hroom,hmin,h48,h0,he,Question.forced,hod,newRow,grownCap,blk,zeroValue,hz']
   ·simp [Builtin.append_,run_underlying hu,run_underlying hxu,Go.sizeOf,typeInfo,hi',asInt,asIntOf,hwr,h48',hneg,hroom,hmin,h48,h0,Question.forced,hod,newRow,grownCap,blk,zeroValue,hz',zeroCells_rep]
  | st hxu hs =>
   have hf := firstCells_str (P := P) (w := w.drew) ‹List UInt8›
   rw [← hs] at hf
   simp [Builtin.append_,run_underlying hu,run_underlying hxu,Go.sizeOf,typeInfo,zeroValue,hi',hz',Builtin.lenOf,Zdy,hroom,hmin,h48,Question.forced,hod,hf,newRow,grownCap,blk]
 ·have hlen : blk.toList.length = grownCap w (n + m) c el * i.size := by
   simp only [blk,Array.length_toList,Array.size_append,List.size_toArray,size_zeroCells,hz,hcs,hlen1,← Nat.add_mul]
   congr 1; omega
  have h3 := hS.drew.alloc (.cells blk el)
  refine St.imp h3 fun g hg => hg.mono_head ?_
  have key := Zcn (T := el) (e := i.size) (c := grownCap w (n + m) c el) (b := w.heap.size) (l := blk.toList) (cs := cs ++ news) hlen hcm (by simp only [blk,Array.toList_append]; exact List.take_left)
  simpa using key
end
end Cr.Cl
namespace Cr.Cl
open Go Go.MapKept
set_option maxRecDepth 4000
section
variable {P : Program} {Γ : Ctx} {Ω : Opq} {ρ : Rho} {w : World}
theorem own_store {T e cap n m b : Nat} {vs news : List Value} {W : World} {F : Nat → Prop} {rest : List Res} (hS : St W F (own T e (some ⟨b,0,none⟩) cap vs :: rest) w) (hle : n * e ≤ vs.length) (hl : news.length = m * e) (hroom : n + m ≤ cap) (hne : news ≠ []) (h1 : ∀ u ∈ news,u.oneCell' = true) :
  ∃ w',(storeCells ⟨b,n * e,none⟩ news 0).run P w = .ok () w' ∧ St W F (own T e (some ⟨b,0,none⟩) cap (vs.take (n * e) ++ news) :: rest) w' := by
 obtain ⟨f,⟨f1,f2,ho,hs,hd,hu⟩,s⟩ := hS
 have hpos : 0 < news.length := List.length_pos_iff.2 hne
 have hfit0 : n * e + m * e ≤ cap * e := by rw [← Nat.add_mul]; exact Nat.mul_le_mul_right _ hroom
 obtain ⟨hl1,hcm,⟨h0,_⟩ | ⟨b',cs,hb1,rfl,hcz,ht⟩⟩ := ho
 ·rw [h0] at hfit0; simp at hfit0; omega
 ·cases hb1
  have hS2 : St W F (pts b (.cells cs T (0,0)) :: rest) w := ⟨f,⟨_,f2,rfl,hs,hd,hu⟩,s⟩
  have hb := hS2.get
  have hst := run_storeCells_at P b (n * e) T news 0 cs w hb (by rw [hcz]; omega) h1
  simp only [Nat.add_zero] at hst
  have u := Zcl hb (Zbt cs.toList (n * e) news).toArray
  refine ⟨_,hst,(hS2.set u).head fun g hg => Zcn (l := Zbt cs.toList (n * e) news) (by rw [Zdf (by simp; omega)]; simpa using hcz) hcm ?_ g hg⟩
  have e1 : cs.toList.take (n * e) = vs.take (n * e) := by
   have := congrArg (List.take (n * e)) ht
   rw [List.take_take,Nat.min_eq_left hle] at this
   exact this
  unfold Zbt
  rw [e1]
  exact List.take_left
theorem appSl_ok {m m' : Mem} (hb : ρ.below m.n) (htop : m.n ≤ top) {W : World} {F : Nat → Prop} {rs : List Res} (hS : St W F (res Ω ρ m.h ++ rs) w) {st xt ty el : TypeId} {ti : TI} (hU : P.underlying st = some (.slice el)) {z : Value} (hi : Inf P el z ti.size ti.bytes)
  (hnew : m.h.get m.n = none) {s' : SV} {xv : Value} {xs : List SV} {news : List Value} {k : Nat} (hx : AppArg P el ti.size xt xv k news w) (hxs : RepL ρ xs news) (_ : 0 < ti.size) (htop' : m.n < top) (_ : ∀ u ∈ news,u.oneCell' = true) (_ : news ≠ []) (_ : news.length = k * ti.size) {o off len cap : Nat} {sv : Value} (hs : Rep ρ (.sl o off len cap) sv) (hmax : len + k ≤ maxLen) (hfit : (len + k) * ti.bytes ≤ 140737488355328) (h : appSl m ti el xs k o off len cap = some (s',m')) :
  ∃ ρ' v w',ρ.ext m.n m'.n ρ' ∧ ρ'.below m'.n ∧ m'.n ≤ top ∧ Rep ρ' s' v ∧ (Builtin.append_ #[st,xt] ty #[sv,xv]).run P w = .ok v w' ∧ St W F (res Ω ρ' m'.h ++ rs) w' := by
 unfold appSl at h
 obtain ⟨L,hL,hlc,hq⟩ := hs
 cases hq
 rcases Zb9 h with ⟨hr,h⟩ | ⟨hr,h⟩
 ·have hr := Zca hr
  split at h
  ·rename_i h' hst
   cases h
   have ho : o < top := by
    rcases Nat.lt_or_ge o m.n with q | q
    ·omega
    ·rw [hb o q] at hL; cases hL
   obtain ⟨_,_,w',g1,g2⟩ := storeS_ok (P := P) hS ho hxs hL hst
   have := append_room (ty := ty) hU hi hx (n := len) (m := k) (c := cap) (a := some ⟨L.1,off,none⟩) hr (w' := w') (by simp only [Zcj]; exact g1)
   exact ⟨ρ,_,w',Rho.ext.rfl,hb,htop,⟨L,hL,by omega,rfl⟩,this,g2⟩
  ·cases h
 ·have hr : ¬ (len + k ≤ cap) := fun q => by rw [nble] at hr; simp at hr; omega
  split at h
  ·rename_i c0 hc0
   cases h
   obtain ⟨vs,q1,q2,q3⟩ := segOf_ok (Ω := Ω) (a := some ⟨L.1,off,none⟩) (m := len) (c := cap) (St.heapRd hS) (v := .sl o off len cap) ⟨L,hL,hlc,rfl⟩ hc0
   obtain ⟨b,c',w',hrun,hS',hc'⟩ := append_new (ty := ty) hU hi hx hr hS q3 q2 hfit hmax
   have hle := Rho.add_le (L := (b,c')) (hb m.n (Nat.le_refl _))
   refine ⟨ρ.add m.n (b,c'),_,w',Rho.ext.add (hb m.n (Nat.le_refl _)),hb.add _,by show m.n + 1 ≤ top; omega,⟨(b,c'),Rho.add_self _ _ _,by simpa using hc',by simp⟩,hrun,?_⟩
   exact St.new htop' hnew (St.head (St.mono' hle hS') fun g hg => ⟨(b,c'),_,Rho.add_self _ _ _,RepL.mono hle _ _ (RepL.append q1 hxs),hg⟩)
  ·cases h
theorem appSlu_ok {m m' : Mem} (hb : ρ.below m.n) (htop : m.n ≤ top) {W : World} {F : Nat → Prop} {rs : List Res} (hS : St W F (res Ω ρ m.h ++ rs) w) {st xt ty el : TypeId} {ti : TI} (hU : P.underlying st = some (.slice el)) {z : Value} (hi : Inf P el z ti.size ti.bytes)
  (hnew : m.h.get m.n = none) {s' : SV} {xv : Value} {xs : List SV} {news : List Value} {k : Nat} (hx : AppArg P el ti.size xt xv k news w) (hxs : RepL ρ xs news) (hsz0 : 0 < ti.size) (htop' : m.n < top) (hones : ∀ u ∈ news,u.oneCell' = true) (hne : news ≠ []) (hlx : news.length = k * ti.size) {o sz j len : Nat} {sv : Value} (hs : Rep ρ (.slu o sz j len) sv) (hmax : len + k ≤ maxLen) (hfit : (len + k) * ti.bytes ≤ 140737488355328) (h : appSlu m ti el xs k o sz j len = some (s',m')) :
  ∃ ρ' v w',ρ.ext m.n m'.n ρ' ∧ ρ'.below m'.n ∧ m'.n ≤ top ∧ Rep ρ' s' v ∧ (Builtin.append_ #[st,xt] ty #[sv,xv]).run P w = .ok v w' ∧ St W F (res Ω ρ' m'.h ++ rs) w' := by
 unfold appSlu at h
 replace h := Zas h; obtain ⟨h4,h⟩ := h
 simp only [Bool.and_eq_true] at h4
 obtain ⟨h4,h5⟩ := h4
 have h4 := Zcb h4; have h5 := Zcb h5
 subst h5; subst h4
 obtain ⟨L,hL,hlc,hq⟩ := hs
 cases hq
 simp only [Nat.zero_mul,Nat.sub_zero,Nat.zero_add] at *
 have ho : o < top := by
  rcases Nat.lt_or_ge o m.n with q | q
  ·omega
  ·rw [hb o q] at hL; cases hL
 split at h
 ·rename_i t sz' c0 hg
  replace h := Zas h; obtain ⟨h6,h⟩ := h
  simp only [Bool.and_eq_true] at h6
  obtain ⟨⟨h6,h7⟩,h8⟩ := h6
  have h6 := Zcb h6; have h7 := Zcb h7; have h8 := Zca h8
  subst h7; subst h6
  rcases Zb9 h with ⟨hr,h⟩ | ⟨hr,h⟩
  ·have hr := Zca hr
   split at h
   ·rename_i h' hst
    cases h
    -- the known cells lie within the capacity
    have hcap : len + k ≤ L.2 := by
     obtain ⟨f,⟨L',ws,g1,g2,g3⟩,_⟩ := St.rdO hg hS
     rw [hL] at g1; cases g1
     have := g3.1
     rw [RepL.length g2] at this
     exact Nat.le_of_mul_le_mul_right (Nat.le_trans hr this) hsz0
    obtain ⟨_,_,w',g1,g2⟩ := storeS_ok (P := P) hS ho hxs hL hst
    have := append_room (ty := ty) hU hi hx (n := len) (m := k) (c := L.2) (a := some ⟨L.1,0,none⟩) hcap (w' := w') (by simp only [Zcj,Nat.zero_add]; exact g1)
    exact ⟨ρ,_,w',Rho.ext.rfl,hb,htop,⟨L,hL,by omega,by simp⟩,this,g2⟩
   ·cases h
  ·cases h
   have hS1 := St.out ho hg hS
   have hnew' : (m.h.erase o).get m.n = none := by
    rw [Heap.get_erase m.n ho,hnew]; simp
   obtain ⟨f,⟨f1,f2,⟨L',ws,g1,g2,g3⟩,hs2,hd,hu'⟩,s⟩ := hS1
   rw [hL] at g1; cases g1
   have hS2 : St W F (own t ti.size (some ⟨L.1,0,none⟩) L.2 ws :: (res Ω ρ (m.h.erase o) ++ rs)) w := ⟨f,⟨f1,f2,g3,hs2,hd,hu'⟩,s⟩
   have hwl := RepL.length g2
   by_cases hroom : len + k ≤ L.2
   ·obtain ⟨w',q1,q2⟩ := own_store (P := P) hS2 (n := len) (m := k) (by omega) hlx hroom hne hones
    have := append_room (ty := ty) hU hi hx (n := len) (m := k) (c := L.2) (a := some ⟨L.1,0,none⟩) hroom (w' := w') (by simp only [Zcj,Nat.zero_add]; exact q1)
    have hle := Rho.add_le (L := L) (hb m.n (Nat.le_refl _))
    refine ⟨ρ.add m.n L,_,w',Rho.ext.add (hb m.n (Nat.le_refl _)),hb.add _,by show m.n + 1 ≤ top; omega,⟨L,Rho.add_self _ _ _,by omega,by simp⟩,this,?_⟩
    exact St.new htop' hnew' (St.head (St.mono' hle q2) fun g hg => ⟨L,_,Rho.add_self _ _ _,RepL.mono hle _ _ (RepL.append (RepL.take _ g2) hxs),hg⟩)
   ·have hrd : Rd w (row (some ⟨L.1,0,none⟩) (ws.take (len * ti.size))) := (hS2.rd (List.mem_cons_self ..)).own_row.mono (by
     have := row.part (a := some ⟨L.1,0,none⟩) (cs := ws) (cs' := ws.take (len * ti.size)) (i := 0) (fun j v hv => by
      rw [List.getElem?_take] at hv; split at hv
      ·simpa using hv
      ·cases hv)
     simpa [adr] using this)
    obtain ⟨b,c',w',hrun,hS',hc'⟩ := append_new (ty := ty) hU hi hx hroom hS2.drop hrd (by simp; omega) hfit hmax
    have hle := Rho.add_le (L := (b,c')) (hb m.n (Nat.le_refl _))
    refine ⟨ρ.add m.n (b,c'),_,w',Rho.ext.add (hb m.n (Nat.le_refl _)),hb.add _,by show m.n + 1 ≤ top; omega,⟨(b,c'),Rho.add_self _ _ _,by simpa using hc',by simp⟩,hrun,?_⟩
    exact St.new htop' hnew' (St.head (St.mono' hle hS') fun g hg => ⟨(b,c'),_,Rho.add_self _ _ _,RepL.mono hle _ _ (RepL.append (RepL.take _ g2) hxs),hg⟩)
 ·cases h
theorem appendS_ok (hΓ : Zdv P Γ) {m m' : Mem} (hb : ρ.below m.n) (htop : m.n ≤ top) {W : World} {F : Nat → Prop} {rs : List Res} (hS : St W F (res Ω ρ m.h ++ rs) w) {st xt ty el : TypeId} {ti : TI} (hu : und Γ st = some (.slice el)) (hti : Γ.ty.get el = some ti)
  (hnew : m.h.get m.n = none) {s s' : SV} {sv xv : Value} {xs : List SV} {news : List Value} {k : Nat} (hs : Rep ρ s sv) (hx : AppArg P el ti.size xt xv k news w) (hxs : RepL ρ xs news) (h : appendS m ti el s xs k = some (s',m')) :
  ∃ ρ' v w',ρ.ext m.n m'.n ρ' ∧ ρ'.below m'.n ∧ m'.n ≤ top ∧ Rep ρ' s' v ∧ (Builtin.append_ #[st,xt] ty #[sv,xv]).run P w = .ok v w' ∧ St W F (res Ω ρ' m'.h ++ rs) w' := by
 have hU := (Zb7 hΓ hu).und
 obtain ⟨z,hi,hz2,_,_⟩ := (hΓ el ti hti).inf
 have hlx := hx.length
 unfold appendS at h
 replace h := Zas h; obtain ⟨h1,h⟩ := h
 simp only [Bool.and_eq_true] at h1
 obtain ⟨⟨hone,hsz0⟩,htop'⟩ := h1
 have hsz0 := Zcr hsz0
 have htop' := Zcr htop'
 have hones := RepL.ones hxs hone
 split at h
 ·rename_i n hn
  replace h := Zas h; obtain ⟨h2,h⟩ := h
  simp only [Bool.and_eq_true] at h2
  obtain ⟨h2,h3⟩ := h2
  have h2 := Zca h2; have h3 := Zca h3
  obtain ⟨a,c,rfl,hnc⟩ := Zd1 hs hn
  have hmax : n + k ≤ maxLen := by simp only [maxLen]; omega
  have hfit : (n + k) * ti.bytes ≤ 140737488355328 := by omega
  rcases Zb9 h with ⟨hk,h⟩ | ⟨hk,h⟩
  ·have hk := Zcb hk; subst hk
   cases h
   have : news = [] := List.eq_nil_of_length_eq_zero (by simpa using hlx)
   subst this
   have := append_room (ty := ty) hU hi hx (n := n) (m := 0) (c := c) (a := a) (by omega) (w' := w) (by cases a <;> simp [storeCells])
   exact ⟨ρ,_,w,Rho.ext.rfl,hb,htop,hs,this,hS⟩
  ·have hk0 : k ≠ 0 := by intro q; subst q; cases hk
   have hne : news ≠ [] := by
    intro q; subst q
    have hlx' : k * ti.size = 0 := by simpa using hlx.symm
    rcases Nat.mul_eq_zero.1 hlx' with q | q
    ·exact hk0 q
    ·omega
   split at h
   ·cases h
    cases hs
    have hno : ¬ (0 + k ≤ 0) := by omega
    obtain ⟨b,c',w',hrun,hS',hc'⟩ := append_new (ty := ty) (a := none) (cs := []) hU hi hx hno hS (Rd_nil _ _) (by simp) hfit hmax
    have hle := Rho.add_le (L := (b,c')) (hb m.n (Nat.le_refl _))
    refine ⟨ρ.add m.n (b,c'),_,w',Rho.ext.add (hb m.n (Nat.le_refl _)),hb.add _,by show m.n + 1 ≤ top; omega,⟨(b,c'),Rho.add_self _ _ _,by simpa using hc',by simp⟩,hrun,?_⟩
    refine St.new htop' hnew (St.head (St.mono' hle hS') fun g hg => ⟨(b,c'),news,Rho.add_self _ _ _,RepL.mono hle _ _ hxs,by simpa using hg⟩)
   ·simp only [lenOf,Option.some.injEq] at hn; subst hn
    exact appSl_ok hb htop hS hU hi hnew hx hxs hsz0 htop' hones hne hlx hs hmax hfit h
   ·simp only [lenOf,Option.some.injEq] at hn; subst hn
    exact appSlu_ok hb htop hS hU hi hnew hx hxs hsz0 htop' hones hne hlx hs hmax hfit h
   ·cases h
 ·cases h
end
end Cr.Cl
