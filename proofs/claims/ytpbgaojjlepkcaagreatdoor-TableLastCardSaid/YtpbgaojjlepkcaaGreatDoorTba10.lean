/-
  The law's Build: a value off tokens.
  Package codec: Same,lists in lists too.
  Layer 8 (tree): a change in memory as a resource: which nodes it has by now (N),over a table that tells T. Nodes told,set,freed.
  Package codec: a reader takes a byte; a reader takes digits.
  Package codec: a reader takes the digits that come.
-/
import Derived.Test.YtpbgaojjlepkcaaGreatDoorTba5
import Derived.Test.YtpbgaojjlepkcaaGreatDoorTba4
import Derived.Test.YtpbgaojjlepkcaaGreatDoorTba9
namespace Cr
open Go Go.Proofs
set_option maxRecDepth 100000
set_option maxHeartbeats 8000000
attribute [local irreducible] Calls

theorem of0_ (W : World) : Calls Tryz.prog 43 #[.slice none 0 0] W (Ret fun v w => ∃ b q,v = .agg (List.toArray [.int .i64 2,.int .i64 0,.slice none 0 0,.slice b 0 q]) ∧ St W noF [own 38 4 b q []] w) := by
 refine (of_M none [] 0 [] W (Zge _ _ _) .nil (by simp [wMs])).mono ?_
 rintro e w ⟨v,he,b,q,rows,X,hv,_,hM,hS⟩
 have hr : rows = [] := List.eq_nil_of_length_eq_zero hM.1
 subst hr
 have hS : St W noF [own 38 4 b q [],bag X] w := hS
 exact ⟨v,he,b,q,hv,hS.took⟩
abbrev zV4 : List Value := [.int .i64 0,.int .i64 0,.slice none 0 0,.slice none 0 0]
structure BdZ where
 ls : List Lv
 L : Lv
 X : List RowD
 sb : Nat
 sc : Nat
 r : Bool
 d : Int
theorem St.lvPush {W : World} {F : Nat → Prop} {w : World} {rs : List Res} {T : TypeId} {ls : List Lv} {L : Lv} {a : Option Addr} {c sc sb : Nat} {cs : List Value} (y : Mv) (hL : L.rows.flatten.length = L.l.length * 4) (hcs : cs.length = 4)
  (hS : St W F (own T 4 a c (Zah (L.rows.flatten ++ zV4) (L.l.length * 4) cs) :: own T 4 (some ⟨sb,0,none⟩) sc ((lvV (ls ++ [L])).set (ls.length * 4 + 3) (.slice a (L.l.length + 1) c)) :: rs) w) :
  St W F (own T 4 (some ⟨sb,0,none⟩) sc (lvV (ls ++ [⟨a,c,L.rows ++ [cs],L.l ++ [y]⟩])) :: own T 4 a c (L.rows ++ [cs]).flatten :: rs) w := by
 rw [Zhx hL (by rw [hcs]; rfl),Z1f ls L a (L.l.length + 1) c (L.rows ++ [cs]) (L.l ++ [y]) (by simp),← Zov] at hS
 exact hS.perm (.swap _ _ _)
theorem Zft {ls : List Lv} {L : Lv} {a : Option Addr} {c : Nat} {rows : List (List Value)} {y : Mv} {i : Nat} (h : lvS (ls ++ [L]) ≤ 24 + 148 * i) (hy : eM y ≤ 148) : lvS (ls ++ [⟨a,c,rows,L.l ++ [y]⟩]) ≤ 24 + 148 * (i + 1) := by
 rw [Zbb,Zdm] at h ⊢
 rw [Zsm]; omega
theorem Zwu {P : Program} {o : Oper} {σ : Env} {w : World} {x y : Operand} {ts : Array TypeId} {a b : Int} (ho : o.op = .call { callee := .builtin .max,args := #[x,y],argTypes := ts }) (hx : ev σ x = some (.int .i64 a)) (hy : ev σ y = some (.int .i64 b)) : Yl P o σ w (.int .i64 (max a b)) := ⟨fun N ds f ha => by
 simp [execOp,ho,resolve,invoke,builtin,ha.eval hx,ha.eval hy,Builtin.max_,Builtin.max2]
 split <;> omega⟩
theorem Zi3 (ls : List Lv) (L : Lv) : (lvV (ls ++ [L])).length = (ls.length + 1) * 4 := by rw [Zd7,List.length_append]; rfl
theorem St.lvPop {W : World} {F : Nat → Prop} {w : World} {rs : List Res} {T : TypeId} {ls : List Lv} {P L : Lv} {a : Option Addr} {c sc sb : Nat} {X : List RowD}
  (hS : St W F (own T 4 a c (P.rows.flatten ++ lvC L) :: own T 4 (some ⟨sb,0,none⟩) sc ((lvV (ls ++ [P] ++ [L])).set (ls.length * 4 + 3) (.slice a (P.l.length + 1) c)) :: own T 4 L.a L.c L.rows.flatten :: bag X :: rs) w) :
  St W F (own T 4 (some ⟨sb,0,none⟩) sc (lvV (ls ++ [⟨a,c,P.rows ++ [lvC L],P.l ++ [liM L.l]⟩])) :: own T 4 a c (P.rows ++ [lvC L]).flatten :: bag ((L.a,L.rows.flatten) :: X) :: rs) w := by
 rw [Zru,Zzr ls P (lvC L) a (P.l.length + 1) c (P.rows ++ [lvC L]) (P.l ++ [liM L.l]) (by simp),← Zov] at hS
 have hS : St W F (own T 4 L.a L.c L.rows.flatten :: bag X :: own T 4 a c (P.rows ++ [lvC L]).flatten :: own T 4 (some ⟨sb,0,none⟩) sc (lvV (ls ++ [⟨a,c,P.rows ++ [lvC L],P.l ++ [liM L.l]⟩]) ++ lvC L) :: rs) w :=
  hS.perm (by
   refine (List.Perm.swap _ _ _).trans ?_
   exact (List.perm_append_comm (l₁ := [_,_]) (l₂ := [own T 4 L.a L.c L.rows.flatten,bag X])).append_right rs |>.trans (by exact ((List.Perm.swap _ _ _).cons _).cons _))
 have hS := hS.bagAdd (a := L.a) (cs := L.rows.flatten) fun _ h => h.row
 have hS : St W F (own T 4 (some ⟨sb,0,none⟩) sc (lvV (ls ++ [⟨a,c,P.rows ++ [lvC L],P.l ++ [liM L.l]⟩]) ++ lvC L) :: bag ((L.a,L.rows.flatten) :: X) :: own T 4 a c (P.rows ++ [lvC L]).flatten :: rs) w := hS.perm (by
  refine ((List.Perm.swap _ _ _).cons _).trans ?_
  refine (List.Perm.swap _ _ _).trans ?_
  exact .refl _)
 have hS := hS.head (own.shrink ((ls.length + 1) * 4))
 rw [← Zi3 ls ⟨a,c,P.rows ++ [lvC L],P.l ++ [liM L.l]⟩,List.take_left] at hS
 exact hS.perm ((List.Perm.swap _ _ _).cons _)
theorem St.lvBelow {W : World} {F : Nat → Prop} {w : World} {rs : List Res} {T : TypeId} {ls : List Lv} {P : Lv} (hS : St W F (Sep ((ls ++ [P]).map (lvO T)) :: rs) w) : St W F (own T 4 P.a P.c P.rows.flatten :: Sep (ls.map (lvO T)) :: rs) w := by
 rw [List.map_append] at hS
 exact (hS.sepPerm List.perm_append_comm).sepOpen
theorem St.lvPile {W : World} {F : Nat → Prop} {w : World} {rs : List Res} {T : TypeId} {ls : List Lv} {P : Lv} (hS : St W F (own T 4 P.a P.c P.rows.flatten :: Sep (ls.map (lvO T)) :: rs) w) : St W F (Sep ((ls ++ [P]).map (lvO T)) :: rs) w := by
 rw [List.map_append]
 exact hS.sepSnoc
theorem Zmo {ls : List Lv} {P L : Lv} {a : Option Addr} {c : Nat} {rows : List (List Value)} {n : Nat} (h : lvS (ls ++ [P] ++ [L]) ≤ n) : lvS (ls ++ [⟨a,c,rows,P.l ++ [liM L.l]⟩]) ≤ n := by
 rw [Zbb,Zbb,Zdm,Zdm] at h
 rw [Zbb,Zdm]
 show lvS ls + (24 + eMs (P.l ++ [liM L.l])) ≤ n
 rw [Zsm,Z31]; omega
structure BdZ.Ok (z : BdZ) (k : Nat) : Prop where
 top : LvOk z.X z.L
 all : ∀ x ∈ z.ls,LvOk z.X x
 cap : z.ls.length + 1 ≤ z.sc
 len : z.ls.length ≤ k
 k60 : k ≤ 60
 sum : lvS (z.ls ++ [z.L]) ≤ 24 + 148 * k
abbrev BdZ.env (z : BdZ) (b2 : Nat) : Env := [(2,.pointer (some ⟨b2,0,none⟩)),(5,.slice (some ⟨z.sb,0,none⟩) (z.ls.length + 1) z.sc),(6,.bool z.r),(7,.int .i64 z.d)]
abbrev BdZ.res (z : BdZ) (b2 : Nat) : List Res := [own 38 4 (some ⟨z.sb,0,none⟩) z.sc (lvV (z.ls ++ [z.L])),own 38 4 z.L.a z.L.c z.L.rows.flatten,Sep (z.ls.map (lvO 38)),bag z.X,pts b2 (.cells (List.toArray zV4) 38 (0,0))]
theorem Z4f (ta : Option Addr) (l : List TkA) (tc : Nat) (W : World) (hl : Tks W noF ta l) :
  Calls Tryz.prog 11 #[.slice ta l.length tc] W (Ret fun v w => ∃ cs X x r d,v = .tuple #[.agg (List.toArray cs),.bool r,.int .i64 d] ∧ Mrd (RX X) x cs ∧ eM x ≤ 10000 ∧ fitM x ∧ St W noF [bag X] w) := by
 have hS := St.start W
 refine Zab Tryz.func11 rfl Tryz.ntmps11 rfl ?_
 repeat (first|refine Yd0 ?_|refine Yag ?_|refine Yar (fun _ _ hS _ => ?_)|refine Yd1 ?_|refine Yab ?_)
 refine Zaa _ rfl rfl rfl rfl rfl (of0_ _) ?_
 rintro _ w ⟨b0,q0,rfl,hS'⟩
 replace hS := hS.plus hS'
 clear hS'
 repeat (first|refine Yd0 ?_|refine Yag ?_|refine Ybf (fun _ _ hS _ => ?_)|refine Yd3 ?_|refine Yab ?_)
 rename_i b2 _ _ _ b3 _ _
 have hS := ((hS.bagNil).sepNil)
 refine Zcp (α := BdZ) (fun z => z.env b2) (fun z w' => z.Ok 60 ∧ St W noF (z.res b2) w') ?_ ?_
 ·refine Zak (α := Nat × BdZ) (fun y => [(0,.slice ta l.length tc),(2,.pointer (some ⟨b2,0,none⟩)),(5,.slice (some ⟨y.2.sb,0,none⟩) (y.2.ls.length + 1) y.2.sc),(6,.bool y.2.r),(7,.int .i64 y.2.d),(8,.int .i64 (y.1 : Nat))])
   (fun y w' => y.1 ≤ l.length ∧ y.2.Ok y.1 ∧ St W noF (y.2.res b2) w') (fun y => 60 - y.1) (0,⟨[],⟨b0,q0,[],[]⟩,[],b3,1,true,1⟩) ⟨rfl,rfl,rfl,rfl,rfl,rfl,trivial⟩ ⟨Nat.zero_le _,⟨⟨.nil,Nat.zero_le _,by rw [Zcj]; trivial⟩,fun _ h => (List.not_mem_nil h).elim,Nat.le_refl _,Nat.le_refl _,Nat.zero_le _,by simp only [List.nil_append,Zdm,eMs]; omega⟩,hS.pick [2,2,0,0,0]⟩ ?_
  clear hS
  rintro ⟨i,ls,L,X,sb,sc,r,d⟩ w ⟨hi,hok,hS⟩
  simp only at hi hok hS ⊢
  by_cases h1 : i < l.length
  case neg =>
   repeat (first|refine Yej ?_|refine Yaf ?_|refine Ya4 ?_|refine Yav ?_|refine Ya3 ?_|refine Yec ?_|refine Yd6 ?_)
   exact Zbi ⟨ls,L,X,sb,sc,r,d⟩ ⟨rfl,rfl,rfl,rfl,trivial⟩ ⟨⟨hok.top,hok.all,hok.cap,by have := hok.len; have := hok.k60; dsimp only at *; omega,by decide,by have := hok.sum; have := hok.k60; dsimp only at *; omega⟩,hS⟩
  by_cases h2 : i < 60
  case neg =>
   repeat (first|refine Yeg ?_|(refine X_id ?_;first|refine Yaf ?_|refine Ya5 ?_|refine Yav ?_|refine Ya2 ?_|refine Ya3 ?_)|refine Yec ?_|refine Yd6 ?_)
   exact Zbi ⟨ls,L,X,sb,sc,r,d⟩ ⟨rfl,rfl,rfl,rfl,trivial⟩ ⟨⟨hok.top,hok.all,hok.cap,by have := hok.len; have := hok.k60; dsimp only at *; omega,by decide,by have := hok.sum; have := hok.k60; dsimp only at *; omega⟩,hS⟩
  have hlen : ls.length ≤ i := hok.len
  have hcap : ls.length + 1 ≤ sc := hok.cap
  have hsum : lvS (ls ++ [L]) ≤ 24 + 148 * i := hok.sum
  have hLr : L.rows.flatten.length = L.l.length * 4 := hok.top.rd.flat
  have hLc : L.l.length ≤ L.c := hok.top.cap
  have hLl : L.l.length ≤ 10000 := by
   have h3 := Zd4 L.l
   have h4 := Zk1 L.l
   rw [Zbb,Zdm] at hsum
   omega
  have htop := Z3g ls L
  have hx0 : l[i]? = some l[i] := List.getElem?_eq_getElem h1
  generalize l[i] = t at hx0
  have hxm := List.mem_of_getElem? hx0
  obtain ⟨⟨htk,htn,htc⟩,htb⟩ := hl.2 t hxm
  have hxs := Z0k hx0
  obtain ⟨k,n,ba,s,bc⟩ := t
  simp only [TkA.cells] at htk htn htc htb hxs
  have hr := hl.1
  obtain ⟨ab,ao,rfl⟩ := (hr.rd hS).base (by intro e; rw [e] at hxs; simp at hxs)
  obtain ⟨m,hm⟩ : ∃ m : Nat,m = min s.length 100 := ⟨_,rfl⟩
  have hmin : min ((s.length : Nat) : Int) 100 = (m : Nat) := by omega
  have hro : Ro W noF (bytes ba (s.take m)) := by
   have := htb.subBytes (l := 0) (h := m) (c := bc) (by omega) (by omega)
   rw [sub_zero,List.drop_zero,Nat.sub_zero] at this
   exact this
  have hml : (s.take m).length = m := by simp; omega
  repeat (first|refine Yeg ?_|(refine X_id ?_;first|refine Yaf ?_|refine Yan ?_|refine Ya5 ?_|refine Yav ?_|refine Ya2 ?_|refine Ybc ?_|refine Yap ?_|refine Ybp ?_|refine Yao (fun _ hS _ => ?_)|refine Yar (fun _ _ hS _ => ?_)|refine Ybf (fun _ _ hS _ => ?_))|refine Yd4 ?_|refine Yab ?_)
  refine X_yl (Zqy rfl rfl rfl) rfl rfl ?_
  rw [hmin]
  repeat (first|refine Yaa ?_)
  refine X_yl (Zan (l := 0) (h := m) rfl rfl rfl rfl (.inr ⟨_,_,rfl,by omega,by omega,by omega⟩) (.inl ⟨rfl,rfl⟩)) rfl rfl ?_
  rw [sub_zero,Nat.sub_zero,Nat.sub_zero]
  repeat (first|refine Yaa ?_)
  rename_i bt _ _ _ _ _ _ _ _ _
  refine Zap (T := 5) (n := 0) (m := m) rfl rfl rfl rfl rfl hS rfl (Nat.zero_le _) (hro.rd hS) (by rw [Zaq,hml,Nat.mul_one]) Zel (by omega) (by simp only [maxLen]; omega) (fun ad cd w hS hcd _ => ?_)
  rw [List.nil_append,Nat.zero_add] at *
  have hS : St W noF [own 5 1 ad cd (bv (s.take m)),pts bt (.cells (List.toArray [.int .i64 k,.int .i64 n,.slice ba s.length bc]) 110 (0,0)),own 38 4 (some ⟨sb,0,none⟩) sc (lvV (ls ++ [L])),own 38 4 L.a L.c L.rows.flatten,Sep (ls.map (lvO 38)),bag X,pts b2 (.cells (List.toArray zV4) 38 (0,0))] _ := hS
  repeat (first|refine Yd0 ?_|(refine X_id ?_;first|refine Yaf ?_|refine Yag ?_|refine Yan ?_|refine Yav ?_|refine Yb8 ?_|refine Yb2 ?_|refine Ycn ?_|refine Yc0 ?_|refine Yap ?_)|refine Yd3 ?_|refine Yab ?_)
  have hK0 : 0 ≤ (IntKind.u64.wrap k).tmod 5 := Int.tmod_nonneg _ (by simp [IntKind.wrap,IntKind.bits,IntKind.signed]; omega)
  generalize (IntKind.u64.wrap k).tmod 5 = K at hK0
  by_cases hk0 : K = 0
  ·subst hk0
   repeat (first|refine Yaj ?_)
   refine Zao (.s 0 (.s 1 (.s 2 (.s 3 (.s 4 (.s 5 (.s 6 (.s 8 (.h 7 (.h 9 (.h 10 (.s 11 (.s 13 (.s 14 (.h 12 (.h 15 .nil .no) (.h 15 (.h 12 .nil .no) .no))))) .no) .no) (.h 9 (.h 7 (.h 10 (.s 11 (.s 13 (.s 14 (.h 12 (.h 15 .nil .no) (.h 15 (.h 12 .nil .no) .no))))) .no) .no) .no)))))))))) mixed (by kernel_rfl) rfl ?_
   have hS := hS.drew
   repeat (first|(refine Zad ?_;first|refine Ya0 ?_|refine Yb3 ?_|refine Ybw ?_))
   refine Zax (fun w' => w'.cell? _ = some _) rfl rfl ((hS.ownRd (a := some ⟨sb,0,none⟩)).cellF (by first | omega | (dsimp only; omega)) htop) (fun _ hc => Zar rfl rfl hc) rfl rfl ?_
   repeat' (first|refine Ze1 ?_ ?_|refine Ybf (fun _ _ hS _ => ?_)|(refine Zad ?_;first|refine Ybj ?_|refine Yct ?_|refine Ybm ?_|refine Yas ?_)|(refine Zac ?_;first|refine Ybt ?_))
   all_goals
    refine Zaa _ rfl rfl rfl rfl rfl (Z1l n _) ?_
    rintro _ w ⟨rfl,hS'⟩
    replace hS := hS.plus hS'
    clear hS'
    repeat (first|refine Ybf (fun _ _ hS _ => ?_)|(refine Zad ?_;first|refine Yas ?_)|(refine Zac ?_;first|refine Ybt ?_))
    have hnw := (hS.rd (List.mem_cons_self ..)).own_row
    refine Zap (T := 38) (a := L.a) (n := L.l.length) (m := 1) rfl rfl rfl rfl rfl hS hLr hLc hnw rfl (by simp [Value.oneCell']) (by omega) (by simp only [maxLen]; omega) (fun na nc w hS hnc _ => ?_)
    obtain ⟨nb,rfl⟩ := hS.ownBase (by simp)
    have hfl : (L.rows.flatten ++ zV4).length = L.l.length * 4 + 4 := by rw [List.length_append,hLr]; rfl
    have hll : (lvV (ls ++ [L])).length = ls.length * 4 + 4 := by rw [Zd7]; simp; omega
    repeat' (first|refine Ze1 ?_ ?_|(refine Zad ?_;first|refine Yb3 ?_|refine Ybw ?_|refine Yas ?_)|(refine Zac ?_;first|refine Ybt ?_))
    ·refine Zbo (a := some ⟨nb,0,none⟩) (i := L.l.length * 4) (vs := [.int .i64 0,.int .i64 n,.slice none 0 0,.slice none 0 0]) rfl rfl (by rw [Int.toNat_natCast]) rfl (by simp [Value.oneCell']) rfl rfl hS (by rw [hfl]; exact Nat.le_refl _) (by rw [hfl]; omega) (fun w hS => ?_)
     repeat (first|(refine Zad ?_;first|refine Yas ?_)|(refine Zac ?_;first|refine Ybt ?_))
     refine Zbr (a := some ⟨sb,0,none⟩) (i := ls.length * 4 + 3) rfl rfl (by show (⟨sb,0 + (((ls.length + 1 : Nat) : Int) - 1).toNat * 4 + 3,none⟩ : Addr) = ⟨sb,0 + (ls.length * 4 + 3),none⟩; congr 1; omega) rfl rfl rfl rfl hS (by rw [hll]; omega) (fun w hS => ?_)
     repeat (first|refine Yd0 ?_|refine Yef ?_|refine Yad ?_|refine Yd8 ?_|(refine Zad ?_;first|refine Yay ?_)|(refine Zac ?_;first|refine Ybt ?_))
     have hS : St W noF (own 38 4 (some ⟨nb,0,none⟩) nc (Zah (L.rows.flatten ++ zV4) (L.l.length * 4) [.int .i64 0,.int .i64 n,.slice none 0 0,.slice none 0 0]) :: own 38 4 (some ⟨sb,0,none⟩) sc ((lvV (ls ++ [L])).set (ls.length * 4 + 3) (.slice (some ⟨nb,0,none⟩) (L.l.length + 1) nc)) :: [Sep (ls.map (lvO 38)),bag X,pts b2 (.cells (List.toArray zV4) 38 (0,0))]) _ := hS.took
     have hS := hS.lvPush (nuM n) hLr rfl
     exact Zaf (z := (i,⟨ls,L,X,sb,sc,r,d⟩)) (i + 1,⟨ls,⟨some ⟨nb,0,none⟩,nc,L.rows ++ [[.int .i64 0,.int .i64 n,.slice none 0 0,.slice none 0 0]],L.l ++ [nuM n]⟩,X,sb,sc,r,d⟩) ⟨rfl,rfl,rfl,rfl,rfl,rfl,trivial⟩ ⟨h1,⟨hok.top.snoc (Zoc (fun _ => .nil) n) hnc (by rw [fitM,Zcj]; exact ⟨htn,by simp,trivial⟩),hok.all,hcap,by dsimp only; omega,by dsimp only; omega,Zft hsum (by rw [Zmz,eMs]; simp)⟩,hS.took⟩ (by dsimp only; omega)
    ·refine Zbr (a := some ⟨sb,0,none⟩) (i := ls.length * 4 + 3) rfl rfl (by show (⟨sb,0 + (((ls.length + 1 : Nat) : Int) - 1).toNat * 4 + 3,none⟩ : Addr) = ⟨sb,0 + (ls.length * 4 + 3),none⟩; congr 1; omega) rfl rfl rfl rfl hS (by rw [hll]; omega) (fun w hS => ?_)
     repeat (first|(refine Zad ?_;first|refine Yas ?_)|(refine Zac ?_;first|refine Ybt ?_))
     refine Zbo (a := some ⟨nb,0,none⟩) (i := L.l.length * 4) (vs := [.int .i64 0,.int .i64 n,.slice none 0 0,.slice none 0 0]) rfl rfl (by rw [Int.toNat_natCast]) rfl (by simp [Value.oneCell']) rfl rfl hS (by rw [hfl]; exact Nat.le_refl _) (by rw [hfl]; omega) (fun w hS => ?_)
     repeat (first|refine Yd0 ?_|refine Yef ?_|refine Yad ?_|refine Yd8 ?_|(refine Zad ?_;first|refine Yay ?_)|(refine Zac ?_;first|refine Ybt ?_))
     have hS : St W noF (own 38 4 (some ⟨nb,0,none⟩) nc (Zah (L.rows.flatten ++ zV4) (L.l.length * 4) [.int .i64 0,.int .i64 n,.slice none 0 0,.slice none 0 0]) :: own 38 4 (some ⟨sb,0,none⟩) sc ((lvV (ls ++ [L])).set (ls.length * 4 + 3) (.slice (some ⟨nb,0,none⟩) (L.l.length + 1) nc)) :: [Sep (ls.map (lvO 38)),bag X,pts b2 (.cells (List.toArray zV4) 38 (0,0))]) _ := hS.took
     have hS := hS.lvPush (nuM n) hLr rfl
     exact Zaf (z := (i,⟨ls,L,X,sb,sc,r,d⟩)) (i + 1,⟨ls,⟨some ⟨nb,0,none⟩,nc,L.rows ++ [[.int .i64 0,.int .i64 n,.slice none 0 0,.slice none 0 0]],L.l ++ [nuM n]⟩,X,sb,sc,r,d⟩) ⟨rfl,rfl,rfl,rfl,rfl,rfl,trivial⟩ ⟨h1,⟨hok.top.snoc (Zoc (fun _ => .nil) n) hnc (by rw [fitM,Zcj]; exact ⟨htn,by simp,trivial⟩),hok.all,hcap,by dsimp only; omega,by dsimp only; omega,Zft hsum (by rw [Zmz,eMs]; simp)⟩,hS.took⟩ (by dsimp only; omega)
  rw [decide_eq_false hk0]
  repeat (first|refine Yd0 ?_|refine Yag ?_|refine Yb8 ?_|refine Yae ?_|refine Yad ?_|refine Yai ?_|refine Yab ?_)
  by_cases hk1 : K = 1
  ·subst hk1
   repeat (first|refine Yaj ?_)
   refine Zao (.s 0 (.s 1 (.s 2 (.s 3 (.s 4 (.s 5 (.s 6 (.s 8 (.h 7 (.h 9 (.h 10 (.s 11 (.s 13 (.s 14 (.h 12 (.h 15 .nil .no) (.h 15 (.h 12 .nil .no) .no))))) .no) .no) (.h 9 (.h 7 (.h 10 (.s 11 (.s 13 (.s 14 (.h 12 (.h 15 .nil .no) (.h 15 (.h 12 .nil .no) .no))))) .no) .no) .no)))))))))) mixed (by kernel_rfl) rfl ?_
   have hS := hS.drew
   repeat (first|(refine Zad ?_;first|refine Ya0 ?_|refine Yb3 ?_|refine Ybw ?_))
   refine Zax (fun w' => w'.cell? _ = some _) rfl rfl ((hS.ownRd (a := some ⟨sb,0,none⟩)).cellF (by first | omega | (dsimp only; omega)) htop) (fun _ hc => Zar rfl rfl hc) rfl rfl ?_
   repeat (first|(refine Zad ?_;first|refine Ya0 ?_))
   refine Zax (fun w' => Rd w' (bytes ad (s.take m))) rfl rfl ((hS.rd (r := own 5 1 ad cd (bv (s.take m))) (by simp)).own_row) (fun _ h => Zb2 rfl rfl h hml) rfl rfl ?_
   repeat' (first|refine Ze1 ?_ ?_|refine Ybf (fun _ _ hS _ => ?_)|(refine Zad ?_;first|refine Yct ?_|refine Yas ?_)|(refine Zac ?_;first|refine Ybt ?_))
   all_goals
    refine Zaa _ rfl rfl rfl rfl rfl (Zzk (s.take m) _) ?_
    rintro _ w ⟨xb,xc,Y,rfl,hY,hS'⟩
    replace hS := hS.plus hS'
    clear hS'
    repeat (first|refine Ybf (fun _ _ hS _ => ?_)|(refine Zad ?_;first|refine Yas ?_)|(refine Zac ?_;first|refine Ybt ?_))
    first | have hnw := (hS.rd (List.mem_cons_self ..)).own_row | have hnw := (hS.rd (List.mem_cons_of_mem _ (List.mem_cons_self ..))).own_row
    refine Zap (T := 38) (a := L.a) (n := L.l.length) (m := 1) rfl rfl rfl rfl rfl hS hLr hLc hnw rfl (by simp [Value.oneCell']) (by omega) (by simp only [maxLen]; omega) (fun na nc w hS hnc _ => ?_)
    obtain ⟨nb,rfl⟩ := hS.ownBase (by simp)
    have hfl : (L.rows.flatten ++ zV4).length = L.l.length * 4 + 4 := by rw [List.length_append,hLr]; rfl
    have hll : (lvV (ls ++ [L])).length = ls.length * 4 + 4 := by rw [Zd7]; simp; omega
    repeat' (first|refine Ze1 ?_ ?_|(refine Zad ?_;first|refine Yb3 ?_|refine Ybw ?_|refine Yas ?_)|(refine Zac ?_;first|refine Ybt ?_))
    ·refine Zbo (a := some ⟨nb,0,none⟩) (i := L.l.length * 4) (vs := [.int .i64 1,.int .i64 0,.slice xb (s.take m).length xc,.slice none 0 0]) rfl rfl (by rw [Int.toNat_natCast]) rfl (by simp [Value.oneCell']) rfl rfl hS (by rw [hfl]; exact Nat.le_refl _) (by rw [hfl]; omega) (fun w hS => ?_)
     repeat (first|(refine Zad ?_;first|refine Yas ?_)|(refine Zac ?_;first|refine Ybt ?_))
     refine Zbr (a := some ⟨sb,0,none⟩) (i := ls.length * 4 + 3) rfl rfl (by show (⟨sb,0 + (((ls.length + 1 : Nat) : Int) - 1).toNat * 4 + 3,none⟩ : Addr) = ⟨sb,0 + (ls.length * 4 + 3),none⟩; congr 1; omega) rfl rfl rfl rfl hS (by rw [hll]; omega) (fun w hS => ?_)
     repeat (first|refine Yd0 ?_|refine Yef ?_|refine Yad ?_|refine Yd8 ?_|(refine Zad ?_;first|refine Yay ?_)|(refine Zac ?_;first|refine Ybt ?_))
     have hS : St W noF (own 38 4 (some ⟨nb,0,none⟩) nc (Zah (L.rows.flatten ++ zV4) (L.l.length * 4) [.int .i64 1,.int .i64 0,.slice xb (s.take m).length xc,.slice none 0 0]) :: own 38 4 (some ⟨sb,0,none⟩) sc ((lvV (ls ++ [L])).set (ls.length * 4 + 3) (.slice (some ⟨nb,0,none⟩) (L.l.length + 1) nc)) :: [Sep (ls.map (lvO 38)),bag Y,bag X,pts b2 (.cells (List.toArray zV4) 38 (0,0))]) _ := hS.took
     have hS := hS.lvPush (txM (s.take m)) hLr rfl
     have hS : St W noF [bag Y,bag X,own 38 4 (some ⟨sb,0,none⟩) sc (lvV (ls ++ [⟨some ⟨nb,0,none⟩,nc,L.rows ++ [[.int .i64 1,.int .i64 0,.slice xb (s.take m).length xc,.slice none 0 0]],L.l ++ [txM (s.take m)]⟩])),own 38 4 (some ⟨nb,0,none⟩) nc (L.rows ++ [([.int .i64 1,.int .i64 0,.slice xb (s.take m).length xc,.slice none 0 0] : List Value)]).flatten,Sep (ls.map (lvO 38)),pts b2 (.cells (List.toArray zV4) 38 (0,0))] _ := hS.took
     have hS := hS.bagJoin
     exact Zaf (z := (i,⟨ls,L,X,sb,sc,r,d⟩)) (i + 1,⟨ls,⟨some ⟨nb,0,none⟩,nc,L.rows ++ [[.int .i64 1,.int .i64 0,.slice xb (s.take m).length xc,.slice none 0 0]],L.l ++ [txM (s.take m)]⟩,Y ++ X,sb,sc,r,d⟩) ⟨rfl,rfl,rfl,rfl,rfl,rfl,trivial⟩ ⟨h1,⟨(hok.top.mono fun x hx => List.mem_append_right _ hx).snoc (hY.mono fun _ _ h => h.left) hnc (by rw [fitM,Zcj]; exact ⟨by omega,by omega,trivial⟩),fun x hx => (hok.all x hx).mono fun y hy => List.mem_append_right _ hy,hcap,by dsimp only; omega,by dsimp only; omega,Zft hsum (by rw [Zmz,eMs]; omega)⟩,hS.took⟩ (by dsimp only; omega)
    ·refine Zbr (a := some ⟨sb,0,none⟩) (i := ls.length * 4 + 3) rfl rfl (by show (⟨sb,0 + (((ls.length + 1 : Nat) : Int) - 1).toNat * 4 + 3,none⟩ : Addr) = ⟨sb,0 + (ls.length * 4 + 3),none⟩; congr 1; omega) rfl rfl rfl rfl hS (by rw [hll]; omega) (fun w hS => ?_)
     repeat (first|(refine Zad ?_;first|refine Yas ?_)|(refine Zac ?_;first|refine Ybt ?_))
     refine Zbo (a := some ⟨nb,0,none⟩) (i := L.l.length * 4) (vs := [.int .i64 1,.int .i64 0,.slice xb (s.take m).length xc,.slice none 0 0]) rfl rfl (by rw [Int.toNat_natCast]) rfl (by simp [Value.oneCell']) rfl rfl hS (by rw [hfl]; exact Nat.le_refl _) (by rw [hfl]; omega) (fun w hS => ?_)
     repeat (first|refine Yd0 ?_|refine Yef ?_|refine Yad ?_|refine Yd8 ?_|(refine Zad ?_;first|refine Yay ?_)|(refine Zac ?_;first|refine Ybt ?_))
     have hS : St W noF (own 38 4 (some ⟨nb,0,none⟩) nc (Zah (L.rows.flatten ++ zV4) (L.l.length * 4) [.int .i64 1,.int .i64 0,.slice xb (s.take m).length xc,.slice none 0 0]) :: own 38 4 (some ⟨sb,0,none⟩) sc ((lvV (ls ++ [L])).set (ls.length * 4 + 3) (.slice (some ⟨nb,0,none⟩) (L.l.length + 1) nc)) :: [Sep (ls.map (lvO 38)),bag Y,bag X,pts b2 (.cells (List.toArray zV4) 38 (0,0))]) _ := hS.took
     have hS := hS.lvPush (txM (s.take m)) hLr rfl
     have hS : St W noF [bag Y,bag X,own 38 4 (some ⟨sb,0,none⟩) sc (lvV (ls ++ [⟨some ⟨nb,0,none⟩,nc,L.rows ++ [[.int .i64 1,.int .i64 0,.slice xb (s.take m).length xc,.slice none 0 0]],L.l ++ [txM (s.take m)]⟩])),own 38 4 (some ⟨nb,0,none⟩) nc (L.rows ++ [([.int .i64 1,.int .i64 0,.slice xb (s.take m).length xc,.slice none 0 0] : List Value)]).flatten,Sep (ls.map (lvO 38)),pts b2 (.cells (List.toArray zV4) 38 (0,0))] _ := hS.took
     have hS := hS.bagJoin
     exact Zaf (z := (i,⟨ls,L,X,sb,sc,r,d⟩)) (i + 1,⟨ls,⟨some ⟨nb,0,none⟩,nc,L.rows ++ [[.int .i64 1,.int .i64 0,.slice xb (s.take m).length xc,.slice none 0 0]],L.l ++ [txM (s.take m)]⟩,Y ++ X,sb,sc,r,d⟩) ⟨rfl,rfl,rfl,rfl,rfl,rfl,trivial⟩ ⟨h1,⟨(hok.top.mono fun x hx => List.mem_append_right _ hx).snoc (hY.mono fun _ _ h => h.left) hnc (by rw [fitM,Zcj]; exact ⟨by omega,by omega,trivial⟩),fun x hx => (hok.all x hx).mono fun y hy => List.mem_append_right _ hy,hcap,by dsimp only; omega,by dsimp only; omega,Zft hsum (by rw [Zmz,eMs]; omega)⟩,hS.took⟩ (by dsimp only; omega)
  rw [decide_eq_false hk1]
  repeat (first|refine Yd0 ?_|refine Yag ?_|refine Yb8 ?_|refine Yae ?_|refine Yad ?_|refine Yai ?_|refine Yab ?_)
  by_cases hk2 : K = 2
  ·subst hk2
   repeat (first|refine Yaa ?_|refine Yaf ?_|refine Yea ?_)
   refine Zaa _ rfl rfl rfl rfl rfl (of0_ _) ?_
   rintro _ w ⟨b1,q1,rfl,hS'⟩
   replace hS := hS.plus hS'
   clear hS'
   repeat (first|refine Yaa ?_|refine Ybf (fun _ _ hS _ => ?_))
   have hnw := (hS.rd (List.mem_cons_self ..)).own_row
   refine Zap (T := 38) (a := some ⟨sb,0,none⟩) (n := ls.length + 1) (m := 1) rfl rfl rfl rfl rfl hS (Zi3 ls L) hcap hnw rfl (by simp [Value.oneCell']) (by omega) (by simp only [maxLen]; omega) (fun na nc w hS hnc _ => ?_)
   obtain ⟨nb,rfl⟩ := hS.ownBase (by simp)
   repeat (first|refine Yd0 ?_|refine Yev ?_|refine Yad ?_|refine Yab ?_)
   refine X_yl (Zwu rfl rfl rfl) rfl rfl ?_
   repeat (first|refine Yd0 ?_|refine Yef ?_|refine Yad ?_|refine Yd8 ?_)
   have hS : St W noF (own 38 4 L.a L.c L.rows.flatten :: Sep (ls.map (lvO 38)) :: [own 38 4 (some ⟨nb,0,none⟩) nc (lvV (ls ++ [L]) ++ [.int .i64 2,.int .i64 0,.slice none 0 0,.slice b1 0 q1]),own 38 4 b1 q1 [],bag X,pts b2 (.cells (List.toArray zV4) 38 (0,0))]) _ := hS.took
   have hS := hS.lvPile
   have hS := hS.took (out := [own 38 4 (some ⟨nb,0,none⟩) nc (lvV (ls ++ [L]) ++ [.int .i64 2,.int .i64 0,.slice none 0 0,.slice b1 0 q1]),own 38 4 b1 q1 [],Sep ((ls ++ [L]).map (lvO 38)),bag X,pts b2 (.cells (List.toArray zV4) 38 (0,0))])
   rw [show lvV (ls ++ [L]) ++ [Value.int .i64 2,.int .i64 0,.slice none 0 0,.slice b1 0 q1] = lvV (ls ++ [L] ++ [⟨b1,q1,[],[]⟩]) from (Zru ls L ⟨b1,q1,[],[]⟩).symm] at hS
   have hl2 : (ls ++ [L]).length = ls.length + 1 := by simp
   refine Zaf (z := (i,⟨ls,L,X,sb,sc,r,d⟩)) (i + 1,⟨ls ++ [L],⟨b1,q1,[],[]⟩,X,nb,nc,r,_⟩) ⟨rfl,rfl,by rw [hl2]; rfl,rfl,rfl,rfl,trivial⟩ ⟨h1,⟨⟨.nil,Nat.zero_le _,by rw [Zcj]; trivial⟩,fun x hx => ?_,by dsimp only; rw [hl2]; exact hnc,by dsimp only; omega,by dsimp only; omega,?_⟩,hS⟩ (by dsimp only; omega)
   ·rcases List.mem_append.1 hx with hx | hx
    ·exact hok.all x hx
    ·obtain rfl : x = L := by simpa using hx
     exact hok.top
   ·dsimp only
    rw [Zbb,Zdm,eMs]; omega
  rw [decide_eq_false hk2]
  repeat (first|refine Yd0 ?_|refine Yag ?_|refine Yb8 ?_|refine Yae ?_|refine Yad ?_|refine Yai ?_|refine Yab ?_)
  by_cases hk3 : K = 3
  ·subst hk3
   obtain rfl | ⟨ls,P,rfl⟩ : ls = [] ∨ ∃ ls' P,ls = ls' ++ [P] := by
    rcases List.eq_nil_or_concat ls with h | ⟨l,x,h⟩
    ·exact .inl h
    ·exact .inr ⟨l,x,by rw [h,List.concat_eq_append]⟩
   ·repeat (first|refine Yd0 ?_|(refine X_id ?_;first|refine Yaf ?_|refine Yag ?_|refine X_yl (Zpi rfl rfl rfl) rfl rfl ?_|refine Yax ?_)|refine Yet ?_|refine Yd8 ?_)
    exact Zaf (z := (i,⟨[],L,X,sb,sc,r,d⟩)) (i + 1,⟨[],L,X,sb,sc,r,d⟩) ⟨rfl,rfl,rfl,rfl,rfl,rfl,trivial⟩ ⟨h1,⟨hok.top,hok.all,hok.cap,Nat.zero_le _,by dsimp only; omega,by dsimp only at *; omega⟩,hS.took⟩ (by dsimp only; omega)
   have hl1 : (ls ++ [P]).length = ls.length + 1 := by simp
   have htop2 : (lvV (ls ++ [P] ++ [L]))[ls.length * 4 + 3]? = some (.slice P.a P.l.length P.c) := by rw [Zru]; exact Z1g ls P _
   have htopC : ((lvV (ls ++ [P] ++ [L])).drop ((ls ++ [P]).length * 4)).take 4 = [.int .i64 2,.int .i64 0,.slice none 0 0,.slice L.a L.l.length L.c] := Zvf (ls ++ [P]) L
   have hll : (lvV (ls ++ [P] ++ [L])).length = ls.length * 4 + 8 := by rw [Zi3,hl1]; omega
   have hP : LvOk X P := hok.all P (by simp)
   have hPr : P.rows.flatten.length = P.l.length * 4 := hP.rd.flat
   have hPc : P.l.length ≤ P.c := hP.cap
   have hPl : P.l.length ≤ 10000 := by
    have h3 := Zd4 P.l
    have h4 := Zk1 P.l
    rw [Zbb,Zbb,Zdm P] at hsum
    omega
   have hS : St W noF (Sep ((ls ++ [P]).map (lvO 38)) :: [own 38 4 (some ⟨sb,0,none⟩) sc (lvV (ls ++ [P] ++ [L])),own 38 4 L.a L.c L.rows.flatten,bag X,pts b2 (.cells (List.toArray zV4) 38 (0,0))]) _ := hS.took
   have hS := hS.lvBelow
   repeat (first|refine Yd0 ?_|refine Yaf ?_|refine Ybx ?_|refine Yea ?_|refine Yab ?_)
   refine Zao (.h 0 (.h 1 (.h 2 (.s 3 .nil) .no) (.h 2 (.h 1 (.s 3 .nil) .no) .no)) .no) mixed (by kernel_rfl) rfl ?_
   have hS := hS.drew
   repeat' (first|refine Ze1 ?_ ?_|refine Yao (fun _ hS _ => ?_)|refine Yar (fun _ _ hS _ => ?_)|refine Yae ?_|refine Yaj ?_|refine Yai ?_|refine Yab ?_|(refine Zad ?_;first|refine Yay ?_|refine Ybm ?_|refine Yas ?_)|(refine Zac ?_;first|refine Ybt ?_))
   ·skip
    refine Zao (.s 0 (.s 1 (.s 2 (.s 3 (.s 4 (.s 5 (.s 6 (.s 7 (.s 8 (.s 9 (.s 10 (.s 11 (.s 12 (.h 13 (.h 14 (.s 15 (.s 16 (.h 17 .nil .no))) .no) .no)))))))))))))) mixed (by kernel_rfl) rfl ?_
    have hS := hS.drew
    repeat (first|(refine Zad ?_;first|refine Ya0 ?_|refine Yb3 ?_|refine Ybw ?_|refine Ycg ?_))
    refine Zax (fun w' => w'.cell? _ = some _) rfl rfl ((hS.ownRd (a := some ⟨sb,0,none⟩)).cellF (by first | omega | (dsimp only; omega)) htop2) (fun _ hc => Zar rfl rfl hc) rfl rfl ?_
    repeat (first|(refine Zad ?_;first|refine Ya0 ?_|refine Ybw ?_))
    refine Zax (fun w' => Zfm w' _ _ _) rfl rfl ((hS.ownRd (a := some ⟨sb,0,none⟩)).cellsC (by first | omega | (dsimp only; omega)) htopC rfl) (fun _ hc => Zco rfl rfl hc) rfl rfl ?_
    repeat (first|refine Ybf (fun _ _ hS _ => ?_)|(refine Zad ?_;first|refine Yas ?_)|(refine Zac ?_;first|refine Ybt ?_))
    have hnw := (hS.rd (List.mem_cons_self ..)).own_row
    refine Zap (T := 38) (a := P.a) (n := P.l.length) (m := 1) rfl rfl rfl rfl rfl hS hPr hPc hnw rfl (by simp [Value.oneCell']) (by omega) (by simp only [maxLen]; omega) (fun na nc w hS hnc _ => ?_)
    obtain ⟨nb,rfl⟩ := hS.ownBase (by simp)
    repeat (first|(refine Zad ?_;first|refine Yb3 ?_|refine Ybw ?_|refine Yas ?_)|(refine Zac ?_;first|refine Ybt ?_))
    refine Zbr (a := some ⟨sb,0,none⟩) (i := ls.length * 4 + 3) rfl rfl (by show (⟨sb,0 + _ + 3,none⟩ : Addr) = ⟨sb,0 + (ls.length * 4 + 3),none⟩; congr 1; omega) rfl rfl rfl rfl hS (by rw [hll]; omega) (fun w hS => ?_)
    repeat (first|refine Yaa ?_|refine Yaf ?_|refine Yad ?_|refine Yab ?_|(refine Zad ?_;first|refine Yay ?_)|(refine Zac ?_;first|refine Ybt ?_))
    refine X_yl (Zan (l := 0) (h := ls.length + 1) rfl rfl rfl rfl (.inr ⟨_,_,rfl,by omega,by omega,by omega⟩) (.inl ⟨rfl,rfl⟩)) rfl rfl ?_
    rw [sub_zero,Nat.sub_zero,Nat.sub_zero]
    repeat (first|refine Yd0 ?_|refine Yef ?_|refine Yad ?_|refine Yd8 ?_)
    have hS : St W noF (own 38 4 (some ⟨nb,0,none⟩) nc (P.rows.flatten ++ [.int .i64 2,.int .i64 0,.slice none 0 0,.slice L.a L.l.length L.c]) :: own 38 4 (some ⟨sb,0,none⟩) sc ((lvV (ls ++ [P] ++ [L])).set (ls.length * 4 + 3) (.slice (some ⟨nb,0,none⟩) (P.l.length + 1) nc)) :: own 38 4 L.a L.c L.rows.flatten :: bag X :: [Sep (ls.map (lvO 38)),pts b2 (.cells (List.toArray zV4) 38 (0,0))]) _ := hS.took
    have hS : St W noF (own 38 4 (some ⟨nb,0,none⟩) nc (P.rows.flatten ++ lvC L) :: own 38 4 (some ⟨sb,0,none⟩) sc ((lvV (ls ++ [P] ++ [L])).set (ls.length * 4 + 3) (.slice (some ⟨nb,0,none⟩) (P.l.length + 1) nc)) :: own 38 4 L.a L.c L.rows.flatten :: bag X :: [Sep (ls.map (lvO 38)),pts b2 (.cells (List.toArray zV4) 38 (0,0))]) _ := hS
    have hS := hS.lvPop
    exact Zaf (z := (i,⟨ls ++ [P],L,X,sb,sc,r,d⟩)) (i + 1,⟨ls,⟨some ⟨nb,0,none⟩,nc,P.rows ++ [lvC L],P.l ++ [liM L.l]⟩,(L.a,L.rows.flatten) :: X,sb,sc,r,d⟩) ⟨rfl,rfl,rfl,rfl,rfl,rfl,trivial⟩ ⟨h1,⟨(hP.mono fun x hx => List.mem_cons_of_mem _ hx).snoc ((hok.top.mono fun x hx => List.mem_cons_of_mem _ hx).val (List.mem_cons_self ..)) hnc hok.top.fitV,fun x hx => (hok.all x (List.mem_append_left _ hx)).mono fun y hy => List.mem_cons_of_mem _ hy,by dsimp only; omega,by dsimp only; omega,by dsimp only; omega,by have := Zmo (a := some ⟨nb,0,none⟩) (c := nc) (rows := P.rows ++ [lvC L]) hsum; dsimp only; omega⟩,hS.took⟩ (by dsimp only; omega)
   ·skip
    refine Zao (.s 0 (.s 1 (.s 2 (.s 3 (.s 4 (.s 5 (.s 6 (.s 7 (.s 8 (.s 9 (.s 10 (.s 11 (.s 12 (.s 13 (.h 14 (.h 15 (.s 16 (.s 17 (.h 18 .nil .no))) .no) .no))))))))))))))) mixed (by kernel_rfl) rfl ?_
    have hS := hS.drew
    repeat (first|(refine Zad ?_;first|refine Ya0 ?_|refine Yb3 ?_|refine Ybw ?_|refine Ycg ?_))
    refine Zax (fun w' => w'.cell? _ = some _) rfl rfl ((hS.ownRd (a := some ⟨sb,0,none⟩)).cellF (by first | omega | (dsimp only; omega)) htop2) (fun _ hc => Zar rfl rfl hc) rfl rfl ?_
    repeat (first|(refine Zad ?_;first|refine Ya0 ?_|refine Ybw ?_))
    refine Zax (fun w' => Zfm w' _ _ _) rfl rfl ((hS.ownRd (a := some ⟨sb,0,none⟩)).cellsC (by first | omega | (dsimp only; omega)) htopC rfl) (fun _ hc => Zco rfl rfl hc) rfl rfl ?_
    repeat (first|refine Ybf (fun _ _ hS _ => ?_)|(refine Zad ?_;first|refine Yct ?_|refine Yas ?_)|(refine Zac ?_;first|refine Ybt ?_))
    have hnw := (hS.rd (List.mem_cons_self ..)).own_row
    refine Zap (T := 38) (a := P.a) (n := P.l.length) (m := 1) rfl rfl rfl rfl rfl hS hPr hPc hnw rfl (by simp [Value.oneCell']) (by omega) (by simp only [maxLen]; omega) (fun na nc w hS hnc _ => ?_)
    obtain ⟨nb,rfl⟩ := hS.ownBase (by simp)
    have hfl : (P.rows.flatten ++ zV4).length = P.l.length * 4 + 4 := by rw [List.length_append,hPr]; rfl
    repeat (first|(refine Zad ?_;first|refine Yb3 ?_|refine Ybw ?_|refine Yas ?_)|(refine Zac ?_;first|refine Ybt ?_))
    refine Zbr (a := some ⟨sb,0,none⟩) (i := ls.length * 4 + 3) rfl rfl (by show (⟨sb,0 + _ + 3,none⟩ : Addr) = ⟨sb,0 + (ls.length * 4 + 3),none⟩; congr 1; omega) rfl rfl rfl rfl hS (by rw [hll]; omega) (fun w hS => ?_)
    repeat (first|refine Yaa ?_|refine Ybc ?_|refine Yad ?_|refine Yab ?_|(refine Zad ?_;first|refine Yay ?_)|(refine Zac ?_;first|refine Ybt ?_))
    refine Zbo (a := some ⟨nb,0,none⟩) (i := P.l.length * 4) (vs := [.int .i64 2,.int .i64 0,.slice none 0 0,.slice L.a L.l.length L.c]) rfl rfl (by rw [Int.toNat_natCast]) rfl (by simp [Value.oneCell']) rfl rfl hS (by rw [hfl]; exact Nat.le_refl _) (by rw [hfl]; omega) (fun w hS => ?_)
    repeat (first|refine Yd0 ?_|refine Yaf ?_|refine Yad ?_|refine Yab ?_)
    refine X_yl (Zan (l := 0) (h := ls.length + 1) rfl rfl rfl rfl (.inr ⟨_,_,rfl,by omega,by omega,by omega⟩) (.inl ⟨rfl,rfl⟩)) rfl rfl ?_
    rw [sub_zero,Nat.sub_zero,Nat.sub_zero]
    repeat (first|refine Yd0 ?_|refine Yef ?_|refine Yad ?_|refine Yd8 ?_)
    have hS : St W noF (own 38 4 (some ⟨nb,0,none⟩) nc (Zah (P.rows.flatten ++ zV4) (P.l.length * 4) [.int .i64 2,.int .i64 0,.slice none 0 0,.slice L.a L.l.length L.c]) :: own 38 4 (some ⟨sb,0,none⟩) sc ((lvV (ls ++ [P] ++ [L])).set (ls.length * 4 + 3) (.slice (some ⟨nb,0,none⟩) (P.l.length + 1) nc)) :: own 38 4 L.a L.c L.rows.flatten :: bag X :: [Sep (ls.map (lvO 38)),pts b2 (.cells (List.toArray zV4) 38 (0,0))]) _ := hS.took
    have hS : St W noF (own 38 4 (some ⟨nb,0,none⟩) nc (Zah (P.rows.flatten ++ zV4) (P.l.length * 4) (lvC L)) :: own 38 4 (some ⟨sb,0,none⟩) sc ((lvV (ls ++ [P] ++ [L])).set (ls.length * 4 + 3) (.slice (some ⟨nb,0,none⟩) (P.l.length + 1) nc)) :: own 38 4 L.a L.c L.rows.flatten :: bag X :: [Sep (ls.map (lvO 38)),pts b2 (.cells (List.toArray zV4) 38 (0,0))]) _ := hS
    rw [Zhx hPr (show zV4.length = (lvC L).length from rfl)] at hS
    have hS := hS.lvPop
    exact Zaf (z := (i,⟨ls ++ [P],L,X,sb,sc,r,d⟩)) (i + 1,⟨ls,⟨some ⟨nb,0,none⟩,nc,P.rows ++ [lvC L],P.l ++ [liM L.l]⟩,(L.a,L.rows.flatten) :: X,sb,sc,r,d⟩) ⟨rfl,rfl,rfl,rfl,rfl,rfl,trivial⟩ ⟨h1,⟨(hP.mono fun x hx => List.mem_cons_of_mem _ hx).snoc ((hok.top.mono fun x hx => List.mem_cons_of_mem _ hx).val (List.mem_cons_self ..)) hnc hok.top.fitV,fun x hx => (hok.all x (List.mem_append_left _ hx)).mono fun y hy => List.mem_cons_of_mem _ hy,by dsimp only; omega,by dsimp only; omega,by dsimp only; omega,by have := Zmo (a := some ⟨nb,0,none⟩) (c := nc) (rows := P.rows ++ [lvC L]) hsum; dsimp only; omega⟩,hS.took⟩ (by dsimp only; omega)
  rw [decide_eq_false hk3]
  refine Zbd rfl ?_
  refine Z41 (α := Nat) (fun b => [(0,.slice (some ⟨ab,ao,none⟩) l.length tc),(2,.pointer (some ⟨b2,0,none⟩)),(5,.slice (some ⟨sb,0,none⟩) (ls.length + 1) sc),(6,.bool r),(7,.int .i64 d),(8,.int .i64 (i : Nat)),(9,.pointer (some ⟨bt,0,none⟩)),(10,.slice ad m cd),(11,.int .i64 (((ls.length + 1 : Nat) : Int) - 1)),(12,.pointer (some ⟨b,0,none⟩))]) (fun b w' => St W noF [own 5 1 ad cd (bv (s.take m)),pts b (.cells (List.toArray [.int .i64 n,.int .i64 n,.slice ad m cd,.slice none 0 0]) 38 (0,0)),pts bt (.cells (List.toArray [.int .i64 k,.int .i64 n,.slice ba s.length bc]) 110 (0,0)),own 38 4 (some ⟨sb,0,none⟩) sc (lvV (ls ++ [L])),own 38 4 L.a L.c L.rows.flatten,Sep (ls.map (lvO 38)),bag X,pts b2 (.cells (List.toArray zV4) 38 (0,0))] w') ?_ ?_
  ·repeat (first|refine Yd0 ?_|(refine X_id ?_;first|refine Yaf ?_|refine Yan ?_|refine Ybk ?_|refine Yap ?_|refine Yao (fun _ hS _ => ?_)|refine Yar (fun _ _ hS _ => ?_))|refine Yad ?_)
   exact Zbi _ ⟨rfl,rfl,rfl,rfl,rfl,rfl,rfl,rfl,rfl,rfl,trivial⟩ hS.took
  clear hS
  rintro b12 w hS
  refine Z41 (α := Bool) (fun r' => [(0,.slice (some ⟨ab,ao,none⟩) l.length tc),(2,.pointer (some ⟨b2,0,none⟩)),(5,.slice (some ⟨sb,0,none⟩) (ls.length + 1) sc),(6,.bool r'),(7,.int .i64 d),(8,.int .i64 (i : Nat)),(9,.pointer (some ⟨bt,0,none⟩)),(10,.slice ad m cd),(11,.int .i64 (((ls.length + 1 : Nat) : Int) - 1)),(12,.pointer (some ⟨b12,0,none⟩))]) (fun r' w' => St W noF [own 5 1 ad cd (bv (s.take m)),pts b12 (.cells (List.toArray [.int .i64 n,.int .i64 n,.slice ad m cd,.slice none 0 0]) 38 (0,0)),pts bt (.cells (List.toArray [.int .i64 k,.int .i64 n,.slice ba s.length bc]) 110 (0,0)),own 38 4 (some ⟨sb,0,none⟩) sc (lvV (ls ++ [L])),own 38 4 L.a L.c L.rows.flatten,Sep (ls.map (lvO 38)),bag X,pts b2 (.cells (List.toArray zV4) 38 (0,0))] w') ?_ ?_
  ·refine (Bool.eq_false_or_eq_true r).elim (fun hr => ?rt) (fun hr => ?rf)
   case' rt =>
    rw [hr]
    repeat (first|refine Yaa ?_|refine Yaw ?_|refine Yaf ?_|refine Yan ?_|refine Yb8 ?_|refine Yap ?_|refine Yad ?_)
    refine (Decidable.em (n = 0)).elim (fun hn0 => ?ry) (fun hn0 => ?rn)
    case' ry =>
     rw [decide_eq_true hn0]
     repeat (first|refine Yeg ?_|(refine X_id ?_;first|refine Yaf ?_|refine Yag ?_|refine Ya5 ?_|refine Yav ?_|refine Yb8 ?_))
    case' rn =>
     rw [decide_eq_false hn0]
     repeat (first|refine Yeu ?_|refine Yag ?_|refine Ya5 ?_|refine Ya4 ?_)
   case' rf =>
    rw [hr]
    repeat (first|refine Yac ?_|refine Yaa ?_|refine Ybg ?_|refine Yc1 ?_|refine Yaf ?_|refine Yag ?_|refine Ya4 ?_|refine Yad ?_)
   all_goals exact Zbi _ ⟨rfl,rfl,rfl,rfl,rfl,rfl,rfl,rfl,rfl,rfl,trivial⟩ hS.took
  clear hS
  rintro r' w hS
  repeat (first|refine Yd0 ?_|refine Yan ?_|refine Yb8 ?_|refine Yap ?_|refine Yd1 ?_|refine Yab ?_)
  refine Zps (α := Int) (fun d' => [(0,.slice (some ⟨ab,ao,none⟩) l.length tc),(2,.pointer (some ⟨b2,0,none⟩)),(5,.slice (some ⟨sb,0,none⟩) (ls.length + 1) sc),(6,.bool r'),(7,.int .i64 d'),(8,.int .i64 (i : Nat)),(9,.pointer (some ⟨bt,0,none⟩)),(10,.slice ad m cd),(11,.int .i64 (((ls.length + 1 : Nat) : Int) - 1)),(12,.pointer (some ⟨b12,0,none⟩))]) (fun d' w' => St W noF [own 5 1 ad cd (bv (s.take m)),pts b12 (.cells (List.toArray [.int .i64 n,.int .i64 n,.slice ad m cd,.slice none 0 0]) 38 (0,0)),pts bt (.cells (List.toArray [.int .i64 k,.int .i64 n,.slice ba s.length bc]) 110 (0,0)),own 38 4 (some ⟨sb,0,none⟩) sc (lvV (ls ++ [L])),own 38 4 L.a L.c L.rows.flatten,Sep (ls.map (lvO 38)),bag X,pts b2 (.cells (List.toArray zV4) 38 (0,0))] w') ?_ ?_
  ·by_cases hn2 : n = 2
   ·rw [decide_eq_true hn2]
    repeat (first|refine Yaa ?_|refine Yaf ?_|refine Yav ?_|refine Yax ?_|refine Yad ?_|refine Yaj ?_)
    refine X_yl (Zwu rfl rfl rfl) rfl rfl ?_
    repeat (first|refine Yd0 ?_|refine Yag ?_)
    exact Zbi _ ⟨rfl,rfl,rfl,rfl,rfl,rfl,rfl,rfl,rfl,rfl,trivial⟩ hS.took
   ·rw [decide_eq_false hn2]
    repeat (first|refine Yak ?_|refine Yai ?_)
    exact Zbi _ ⟨rfl,rfl,rfl,rfl,rfl,rfl,rfl,rfl,rfl,rfl,trivial⟩ hS.took
  clear hS
  rintro d' w hS
  repeat (first|fail)
  refine Zao (.s 0 (.s 1 (.s 2 (.s 3 (.s 4 (.s 5 (.s 6 (.h 7 (.h 8 (.s 9 (.s 11 (.s 12 (.h 10 (.h 13 .nil .no) (.h 13 (.h 10 .nil .no) .no))))) .no) .no)))))))) mixed (by kernel_rfl) rfl ?_
  have hS := hS.drew
  repeat (first|(refine Zad ?_;first|refine Ya0 ?_|refine Yb3 ?_|refine Ybw ?_))
  refine Zax (fun w' => w'.cell? _ = some _) rfl rfl ((hS.ownRd (a := some ⟨sb,0,none⟩)).cellF (by first | omega | (dsimp only; omega)) htop) (fun _ hc => Zar rfl rfl hc) rfl rfl ?_
  repeat (first|refine Ybf (fun _ _ hS _ => ?_)|(refine Zad ?_;first|refine Yct ?_|refine Yb1 ?_|refine Yas ?_)|(refine Zac ?_;first|refine Ybt ?_))
  have hnw := (hS.rd (List.mem_cons_self ..)).own_row
  refine Zap (T := 38) (a := L.a) (n := L.l.length) (m := 1) rfl rfl rfl rfl rfl hS hLr hLc hnw rfl (by simp [Value.oneCell']) (by omega) (by simp only [maxLen]; omega) (fun na nc w hS hnc _ => ?_)
  obtain ⟨nb,rfl⟩ := hS.ownBase (by simp)
  have hfl : (L.rows.flatten ++ zV4).length = L.l.length * 4 + 4 := by rw [List.length_append,hLr]; rfl
  have hll : (lvV (ls ++ [L])).length = ls.length * 4 + 4 := by rw [Zd7]; simp; omega
  repeat' (first|refine Ze1 ?_ ?_|(refine Zad ?_;first|refine Yb3 ?_|refine Ybw ?_|refine Yas ?_)|(refine Zac ?_;first|refine Ybt ?_))
  ·refine Zbo (a := some ⟨nb,0,none⟩) (i := L.l.length * 4) (vs := [.int .i64 n,.int .i64 n,.slice ad m cd,.slice none 0 0]) rfl rfl (by rw [Int.toNat_natCast]) rfl (by simp [Value.oneCell']) rfl rfl hS (by rw [hfl]; exact Nat.le_refl _) (by rw [hfl]; omega) (fun w hS => ?_)
   repeat (first|(refine Zad ?_;first|refine Yas ?_)|(refine Zac ?_;first|refine Ybt ?_))
   refine Zbr (a := some ⟨sb,0,none⟩) (i := ls.length * 4 + 3) rfl rfl (by show (⟨sb,0 + (((ls.length + 1 : Nat) : Int) - 1).toNat * 4 + 3,none⟩ : Addr) = ⟨sb,0 + (ls.length * 4 + 3),none⟩; congr 1; omega) rfl rfl rfl rfl hS (by rw [hll]; omega) (fun w hS => ?_)
   repeat (first|refine Yd0 ?_|refine Yef ?_|refine Yad ?_|refine Yd8 ?_|(refine Zad ?_;first|refine Yay ?_)|(refine Zac ?_;first|refine Ybt ?_))
   have hS : St W noF (own 38 4 (some ⟨nb,0,none⟩) nc (Zah (L.rows.flatten ++ zV4) (L.l.length * 4) [.int .i64 n,.int .i64 n,.slice ad m cd,.slice none 0 0]) :: own 38 4 (some ⟨sb,0,none⟩) sc ((lvV (ls ++ [L])).set (ls.length * 4 + 3) (.slice (some ⟨nb,0,none⟩) (L.l.length + 1) nc)) :: [Sep (ls.map (lvO 38)),own 5 1 ad cd (bv (s.take m)),bag X,pts b2 (.cells (List.toArray zV4) 38 (0,0))]) _ := hS.took
   have hS := hS.lvPush (.mk n n (s.take m) []) hLr rfl
   have hS : St W noF [own 5 1 ad cd (bv (s.take m)),bag X,own 38 4 (some ⟨sb,0,none⟩) sc (lvV (ls ++ [⟨some ⟨nb,0,none⟩,nc,L.rows ++ [[.int .i64 n,.int .i64 n,.slice ad m cd,.slice none 0 0]],L.l ++ [.mk n n (s.take m) []]⟩])),own 38 4 (some ⟨nb,0,none⟩) nc (L.rows ++ [([.int .i64 n,.int .i64 n,.slice ad m cd,.slice none 0 0] : List Value)]).flatten,Sep (ls.map (lvO 38)),pts b2 (.cells (List.toArray zV4) 38 (0,0))] _ := hS.took
   have hS := hS.bagAdd (a := ad) (cs := bv (s.take m)) fun _ h => h.row
   exact Zaf (z := (i,⟨ls,L,X,sb,sc,r,d⟩)) (i + 1,⟨ls,⟨some ⟨nb,0,none⟩,nc,L.rows ++ [[.int .i64 n,.int .i64 n,.slice ad m cd,.slice none 0 0]],L.l ++ [.mk n n (s.take m) []]⟩,(ad,bv (s.take m)) :: X,sb,sc,r',d'⟩) ⟨rfl,rfl,rfl,rfl,rfl,rfl,trivial⟩ ⟨h1,⟨(hok.top.mono fun x hx => List.mem_cons_of_mem _ hx).snoc (.mk' (rows := []) (l := []) hml rfl hcd (.mem (List.mem_cons_self ..)) .nil rfl (fun _ _ _ h => by simp at h)) hnc (by rw [fitM,Zcj]; exact ⟨htn,by omega,trivial⟩),fun x hx => (hok.all x hx).mono fun y hy => List.mem_cons_of_mem _ hy,hcap,by dsimp only; omega,by dsimp only; omega,Zft hsum (by rw [Zmz,eMs]; omega)⟩,hS.took⟩ (by dsimp only; omega)
  ·refine Zbr (a := some ⟨sb,0,none⟩) (i := ls.length * 4 + 3) rfl rfl (by show (⟨sb,0 + (((ls.length + 1 : Nat) : Int) - 1).toNat * 4 + 3,none⟩ : Addr) = ⟨sb,0 + (ls.length * 4 + 3),none⟩; congr 1; omega) rfl rfl rfl rfl hS (by rw [hll]; omega) (fun w hS => ?_)
   repeat (first|(refine Zad ?_;first|refine Yas ?_)|(refine Zac ?_;first|refine Ybt ?_))
   refine Zbo (a := some ⟨nb,0,none⟩) (i := L.l.length * 4) (vs := [.int .i64 n,.int .i64 n,.slice ad m cd,.slice none 0 0]) rfl rfl (by rw [Int.toNat_natCast]) rfl (by simp [Value.oneCell']) rfl rfl hS (by rw [hfl]; exact Nat.le_refl _) (by rw [hfl]; omega) (fun w hS => ?_)
   repeat (first|refine Yd0 ?_|refine Yef ?_|refine Yad ?_|refine Yd8 ?_|(refine Zad ?_;first|refine Yay ?_)|(refine Zac ?_;first|refine Ybt ?_))
   have hS : St W noF (own 38 4 (some ⟨nb,0,none⟩) nc (Zah (L.rows.flatten ++ zV4) (L.l.length * 4) [.int .i64 n,.int .i64 n,.slice ad m cd,.slice none 0 0]) :: own 38 4 (some ⟨sb,0,none⟩) sc ((lvV (ls ++ [L])).set (ls.length * 4 + 3) (.slice (some ⟨nb,0,none⟩) (L.l.length + 1) nc)) :: [Sep (ls.map (lvO 38)),own 5 1 ad cd (bv (s.take m)),bag X,pts b2 (.cells (List.toArray zV4) 38 (0,0))]) _ := hS.took
   have hS := hS.lvPush (.mk n n (s.take m) []) hLr rfl
   have hS : St W noF [own 5 1 ad cd (bv (s.take m)),bag X,own 38 4 (some ⟨sb,0,none⟩) sc (lvV (ls ++ [⟨some ⟨nb,0,none⟩,nc,L.rows ++ [[.int .i64 n,.int .i64 n,.slice ad m cd,.slice none 0 0]],L.l ++ [.mk n n (s.take m) []]⟩])),own 38 4 (some ⟨nb,0,none⟩) nc (L.rows ++ [([.int .i64 n,.int .i64 n,.slice ad m cd,.slice none 0 0] : List Value)]).flatten,Sep (ls.map (lvO 38)),pts b2 (.cells (List.toArray zV4) 38 (0,0))] _ := hS.took
   have hS := hS.bagAdd (a := ad) (cs := bv (s.take m)) fun _ h => h.row
   exact Zaf (z := (i,⟨ls,L,X,sb,sc,r,d⟩)) (i + 1,⟨ls,⟨some ⟨nb,0,none⟩,nc,L.rows ++ [[.int .i64 n,.int .i64 n,.slice ad m cd,.slice none 0 0]],L.l ++ [.mk n n (s.take m) []]⟩,(ad,bv (s.take m)) :: X,sb,sc,r',d'⟩) ⟨rfl,rfl,rfl,rfl,rfl,rfl,trivial⟩ ⟨h1,⟨(hok.top.mono fun x hx => List.mem_cons_of_mem _ hx).snoc (.mk' (rows := []) (l := []) hml rfl hcd (.mem (List.mem_cons_self ..)) .nil rfl (fun _ _ _ h => by simp at h)) hnc (by rw [fitM,Zcj]; exact ⟨htn,by omega,trivial⟩),fun x hx => (hok.all x hx).mono fun y hy => List.mem_cons_of_mem _ hy,hcap,by dsimp only; omega,by dsimp only; omega,Zft hsum (by rw [Zmz,eMs]; omega)⟩,hS.took⟩ (by dsimp only; omega)
 ·rintro z w ⟨hok,hS⟩
  repeat (first|refine Yae ?_|refine Yal ?_)
  refine Zak (α := BdZ) (fun z => [(2,.pointer (some ⟨b2,0,none⟩)),(5,.slice (some ⟨z.sb,0,none⟩) (z.ls.length + 1) z.sc),(6,.bool z.r),(7,.int .i64 z.d)]) (fun z w' => z.Ok 60 ∧ St W noF (z.res b2) w') (fun z => z.ls.length) z ⟨rfl,rfl,rfl,rfl,trivial⟩ ⟨hok,hS⟩ ?_
  clear hS hok z
  rintro ⟨ls,L,X,sb,sc,r,d⟩ w ⟨hok,hS⟩
  simp only at hok hS ⊢
  have hcap : ls.length + 1 ≤ sc := hok.cap
  have hsum : lvS (ls ++ [L]) ≤ 24 + 148 * 60 := hok.sum
  have hlen : ls.length ≤ 60 := hok.len
  have hLr : L.rows.flatten.length = L.l.length * 4 := hok.top.rd.flat
  have hLc : L.l.length ≤ L.c := hok.top.cap
  have hLl : L.l.length ≤ 10000 := by
   have h3 := Zd4 L.l
   have h4 := Zk1 L.l
   rw [Zbb,Zdm] at hsum
   omega
  obtain rfl | ⟨ls,P,rfl⟩ : ls = [] ∨ ∃ ls' P,ls = ls' ++ [P] := by
   rcases List.eq_nil_or_concat ls with h | ⟨l,x,h⟩
   ·exact .inl h
   ·exact .inr ⟨l,x,by rw [h,List.concat_eq_append]⟩
  ·have htopC : ((lvV ([] ++ [L])).drop (0 * 4)).take 4 = [.int .i64 2,.int .i64 0,.slice none 0 0,.slice L.a L.l.length L.c] := Zvf [] L
   repeat (first|refine Yd0 ?_|(refine X_id ?_;first|refine Yaf ?_|refine Yav ?_|refine X_yl (Zpi rfl rfl rfl) rfl rfl ?_|refine Ybc ?_)|refine Yec ?_|refine Yd6 ?_)
   refine X_yl (Zco rfl rfl ((hS.ownRd (a := some ⟨sb,0,none⟩)).cellsC (by first | omega | (dsimp only; omega)) htopC rfl)) rfl rfl ?_
   repeat (first|refine Yd0 ?_|refine Yee ?_|refine Yao (fun _ hS _ => ?_)|refine Yah ?_|refine Yab ?_|refine Ydt ?_)
   have hS : St W noF [own 38 4 L.a L.c L.rows.flatten,bag X] _ := hS.took
   have hS := hS.bagAdd (a := L.a) (cs := L.rows.flatten) fun _ h => h.row
   exact ⟨_,(L.a,L.rows.flatten) :: X,liM L.l,r,d,rfl,(hok.top.mono fun x hx => List.mem_cons_of_mem _ hx).val (List.mem_cons_self ..),by rw [Z31]; rw [List.nil_append,Zdm] at hsum; omega,hok.top.fitV,hS⟩
  ·have hl1 : (ls ++ [P]).length = ls.length + 1 := by simp
   have htop2 : (lvV (ls ++ [P] ++ [L]))[ls.length * 4 + 3]? = some (.slice P.a P.l.length P.c) := by rw [Zru]; exact Z1g ls P _
   have htopC : ((lvV (ls ++ [P] ++ [L])).drop ((ls ++ [P]).length * 4)).take 4 = [.int .i64 2,.int .i64 0,.slice none 0 0,.slice L.a L.l.length L.c] := Zvf (ls ++ [P]) L
   have hll : (lvV (ls ++ [P] ++ [L])).length = ls.length * 4 + 8 := by rw [Zi3,hl1]; omega
   have hP : LvOk X P := hok.all P (by simp)
   have hPr : P.rows.flatten.length = P.l.length * 4 := hP.rd.flat
   have hPc : P.l.length ≤ P.c := hP.cap
   have hPl : P.l.length ≤ 10000 := by
    have h3 := Zd4 P.l
    have h4 := Zk1 P.l
    rw [Zbb,Zbb,Zdm P] at hsum
    omega
   have hS : St W noF (Sep ((ls ++ [P]).map (lvO 38)) :: [own 38 4 (some ⟨sb,0,none⟩) sc (lvV (ls ++ [P] ++ [L])),own 38 4 L.a L.c L.rows.flatten,bag X,pts b2 (.cells (List.toArray zV4) 38 (0,0))]) _ := hS.took
   have hS := hS.lvBelow
   repeat (first|refine Yd0 ?_|(refine X_id ?_;first|refine Yaf ?_|refine Yag ?_|refine Yav ?_|refine Ybx ?_|refine Yb2 ?_)|refine Yd4 ?_|refine Yab ?_)
   refine Zao (.h 0 (.h 1 (.h 2 (.s 3 .nil) .no) (.h 2 (.h 1 (.s 3 .nil) .no) .no)) .no) mixed (by kernel_rfl) rfl ?_
   have hS := hS.drew
   repeat' (first|refine Ze1 ?_ ?_|refine Yao (fun _ hS _ => ?_)|refine Yar (fun _ _ hS _ => ?_)|refine Yae ?_|refine Yaj ?_|refine Yai ?_|refine Yab ?_|(refine Zad ?_;first|refine Yay ?_|refine Ybm ?_|refine Yas ?_)|(refine Zac ?_;first|refine Ybt ?_))
   ·skip
    refine Zao (.s 0 (.s 1 (.s 2 (.s 3 (.s 4 (.s 5 (.s 6 (.s 7 (.s 8 (.s 9 (.s 10 (.s 11 (.s 12 (.h 13 (.h 14 (.s 15 (.s 16 (.h 17 .nil .no))) .no) .no)))))))))))))) mixed (by kernel_rfl) rfl ?_
    have hS := hS.drew
    repeat (first|(refine Zad ?_;first|refine Ya0 ?_|refine Yb3 ?_|refine Ybw ?_|refine Ycg ?_))
    refine Zax (fun w' => w'.cell? _ = some _) rfl rfl ((hS.ownRd (a := some ⟨sb,0,none⟩)).cellF (by first | omega | (dsimp only; omega)) htop2) (fun _ hc => Zar rfl rfl hc) rfl rfl ?_
    repeat (first|(refine Zad ?_;first|refine Ya0 ?_|refine Ybw ?_))
    refine Zax (fun w' => Zfm w' _ _ _) rfl rfl ((hS.ownRd (a := some ⟨sb,0,none⟩)).cellsC (by first | omega | (dsimp only; omega)) htopC rfl) (fun _ hc => Zco rfl rfl hc) rfl rfl ?_
    repeat (first|refine Ybf (fun _ _ hS _ => ?_)|(refine Zad ?_;first|refine Yas ?_)|(refine Zac ?_;first|refine Ybt ?_))
    have hnw := (hS.rd (List.mem_cons_self ..)).own_row
    refine Zap (T := 38) (a := P.a) (n := P.l.length) (m := 1) rfl rfl rfl rfl rfl hS hPr hPc hnw rfl (by simp [Value.oneCell']) (by omega) (by simp only [maxLen]; omega) (fun na nc w hS hnc _ => ?_)
    obtain ⟨nb,rfl⟩ := hS.ownBase (by simp)
    repeat (first|(refine Zad ?_;first|refine Yb3 ?_|refine Ybw ?_|refine Yas ?_)|(refine Zac ?_;first|refine Ybt ?_))
    refine Zbr (a := some ⟨sb,0,none⟩) (i := ls.length * 4 + 3) rfl rfl (by show (⟨sb,0 + _ + 3,none⟩ : Addr) = ⟨sb,0 + (ls.length * 4 + 3),none⟩; congr 1; omega) rfl rfl rfl rfl hS (by rw [hll]; omega) (fun w hS => ?_)
    repeat (first|refine Yaa ?_|refine Yaf ?_|refine Yad ?_|refine Yab ?_|(refine Zad ?_;first|refine Yay ?_)|(refine Zac ?_;first|refine Ybt ?_))
    refine X_yl (Zan (l := 0) (h := ls.length + 1) rfl rfl rfl rfl (.inr ⟨_,_,rfl,by omega,by omega,by omega⟩) (.inl ⟨rfl,rfl⟩)) rfl rfl ?_
    rw [sub_zero,Nat.sub_zero,Nat.sub_zero]
    repeat (first|refine Yd0 ?_|refine Yag ?_|refine Yat ?_)
    have hS : St W noF (own 38 4 (some ⟨nb,0,none⟩) nc (P.rows.flatten ++ [.int .i64 2,.int .i64 0,.slice none 0 0,.slice L.a L.l.length L.c]) :: own 38 4 (some ⟨sb,0,none⟩) sc ((lvV (ls ++ [P] ++ [L])).set (ls.length * 4 + 3) (.slice (some ⟨nb,0,none⟩) (P.l.length + 1) nc)) :: own 38 4 L.a L.c L.rows.flatten :: bag X :: [Sep (ls.map (lvO 38)),pts b2 (.cells (List.toArray zV4) 38 (0,0))]) _ := hS.took
    have hS : St W noF (own 38 4 (some ⟨nb,0,none⟩) nc (P.rows.flatten ++ lvC L) :: own 38 4 (some ⟨sb,0,none⟩) sc ((lvV (ls ++ [P] ++ [L])).set (ls.length * 4 + 3) (.slice (some ⟨nb,0,none⟩) (P.l.length + 1) nc)) :: own 38 4 L.a L.c L.rows.flatten :: bag X :: [Sep (ls.map (lvO 38)),pts b2 (.cells (List.toArray zV4) 38 (0,0))]) _ := hS
    have hS := hS.lvPop
    exact Zaf (z := (⟨ls ++ [P],L,X,sb,sc,r,d⟩ : BdZ)) (⟨ls,⟨some ⟨nb,0,none⟩,nc,P.rows ++ [lvC L],P.l ++ [liM L.l]⟩,(L.a,L.rows.flatten) :: X,sb,sc,r,d⟩ : BdZ) ⟨rfl,rfl,rfl,rfl,trivial⟩ ⟨⟨(hP.mono fun x hx => List.mem_cons_of_mem _ hx).snoc ((hok.top.mono fun x hx => List.mem_cons_of_mem _ hx).val (List.mem_cons_self ..)) hnc hok.top.fitV,fun x hx => (hok.all x (List.mem_append_left _ hx)).mono fun y hy => List.mem_cons_of_mem _ hy,by first | omega | (dsimp only; omega),by first | omega | (dsimp only; omega),by first | omega | (dsimp only; omega),by have := Zmo (a := some ⟨nb,0,none⟩) (c := nc) (rows := P.rows ++ [lvC L]) hsum; dsimp only; omega⟩,hS.took⟩ (by first | omega | (dsimp only; omega))
   ·skip
    refine Zao (.s 0 (.s 1 (.s 2 (.s 3 (.s 4 (.s 5 (.s 6 (.s 7 (.s 8 (.s 9 (.s 10 (.s 11 (.s 12 (.s 13 (.h 14 (.h 15 (.s 16 (.s 17 (.h 18 .nil .no))) .no) .no))))))))))))))) mixed (by kernel_rfl) rfl ?_
    have hS := hS.drew
    repeat (first|(refine Zad ?_;first|refine Ya0 ?_|refine Yb3 ?_|refine Ybw ?_|refine Ycg ?_))
    refine Zax (fun w' => w'.cell? _ = some _) rfl rfl ((hS.ownRd (a := some ⟨sb,0,none⟩)).cellF (by first | omega | (dsimp only; omega)) htop2) (fun _ hc => Zar rfl rfl hc) rfl rfl ?_
    repeat (first|(refine Zad ?_;first|refine Ya0 ?_|refine Ybw ?_))
    refine Zax (fun w' => Zfm w' _ _ _) rfl rfl ((hS.ownRd (a := some ⟨sb,0,none⟩)).cellsC (by first | omega | (dsimp only; omega)) htopC rfl) (fun _ hc => Zco rfl rfl hc) rfl rfl ?_
    repeat (first|refine Ybf (fun _ _ hS _ => ?_)|(refine Zad ?_;first|refine Yct ?_|refine Yas ?_)|(refine Zac ?_;first|refine Ybt ?_))
    have hnw := (hS.rd (List.mem_cons_self ..)).own_row
    refine Zap (T := 38) (a := P.a) (n := P.l.length) (m := 1) rfl rfl rfl rfl rfl hS hPr hPc hnw rfl (by simp [Value.oneCell']) (by omega) (by simp only [maxLen]; omega) (fun na nc w hS hnc _ => ?_)
    obtain ⟨nb,rfl⟩ := hS.ownBase (by simp)
    have hfl : (P.rows.flatten ++ zV4).length = P.l.length * 4 + 4 := by rw [List.length_append,hPr]; rfl
    repeat (first|(refine Zad ?_;first|refine Yb3 ?_|refine Ybw ?_|refine Yas ?_)|(refine Zac ?_;first|refine Ybt ?_))
    refine Zbr (a := some ⟨sb,0,none⟩) (i := ls.length * 4 + 3) rfl rfl (by show (⟨sb,0 + _ + 3,none⟩ : Addr) = ⟨sb,0 + (ls.length * 4 + 3),none⟩; congr 1; omega) rfl rfl rfl rfl hS (by rw [hll]; omega) (fun w hS => ?_)
    repeat (first|refine Yaa ?_|refine Ybc ?_|refine Yad ?_|refine Yab ?_|(refine Zad ?_;first|refine Yay ?_)|(refine Zac ?_;first|refine Ybt ?_))
    refine Zbo (a := some ⟨nb,0,none⟩) (i := P.l.length * 4) (vs := [.int .i64 2,.int .i64 0,.slice none 0 0,.slice L.a L.l.length L.c]) rfl rfl (by rw [Int.toNat_natCast]) rfl (by simp [Value.oneCell']) rfl rfl hS (by rw [hfl]; exact Nat.le_refl _) (by rw [hfl]; omega) (fun w hS => ?_)
    repeat (first|refine Yd0 ?_|refine Yaf ?_|refine Yad ?_|refine Yab ?_)
    refine X_yl (Zan (l := 0) (h := ls.length + 1) rfl rfl rfl rfl (.inr ⟨_,_,rfl,by omega,by omega,by omega⟩) (.inl ⟨rfl,rfl⟩)) rfl rfl ?_
    rw [sub_zero,Nat.sub_zero,Nat.sub_zero]
    repeat (first|refine Yd0 ?_|refine Yag ?_|refine Yat ?_)
    have hS : St W noF (own 38 4 (some ⟨nb,0,none⟩) nc (Zah (P.rows.flatten ++ zV4) (P.l.length * 4) [.int .i64 2,.int .i64 0,.slice none 0 0,.slice L.a L.l.length L.c]) :: own 38 4 (some ⟨sb,0,none⟩) sc ((lvV (ls ++ [P] ++ [L])).set (ls.length * 4 + 3) (.slice (some ⟨nb,0,none⟩) (P.l.length + 1) nc)) :: own 38 4 L.a L.c L.rows.flatten :: bag X :: [Sep (ls.map (lvO 38)),pts b2 (.cells (List.toArray zV4) 38 (0,0))]) _ := hS.took
    have hS : St W noF (own 38 4 (some ⟨nb,0,none⟩) nc (Zah (P.rows.flatten ++ zV4) (P.l.length * 4) (lvC L)) :: own 38 4 (some ⟨sb,0,none⟩) sc ((lvV (ls ++ [P] ++ [L])).set (ls.length * 4 + 3) (.slice (some ⟨nb,0,none⟩) (P.l.length + 1) nc)) :: own 38 4 L.a L.c L.rows.flatten :: bag X :: [Sep (ls.map (lvO 38)),pts b2 (.cells (List.toArray zV4) 38 (0,0))]) _ := hS
    rw [Zhx hPr (show zV4.length = (lvC L).length from rfl)] at hS
    have hS := hS.lvPop
    exact Zaf (z := (⟨ls ++ [P],L,X,sb,sc,r,d⟩ : BdZ)) (⟨ls,⟨some ⟨nb,0,none⟩,nc,P.rows ++ [lvC L],P.l ++ [liM L.l]⟩,(L.a,L.rows.flatten) :: X,sb,sc,r,d⟩ : BdZ) ⟨rfl,rfl,rfl,rfl,trivial⟩ ⟨⟨(hP.mono fun x hx => List.mem_cons_of_mem _ hx).snoc ((hok.top.mono fun x hx => List.mem_cons_of_mem _ hx).val (List.mem_cons_self ..)) hnc hok.top.fitV,fun x hx => (hok.all x (List.mem_append_left _ hx)).mono fun y hy => List.mem_cons_of_mem _ hy,by first | omega | (dsimp only; omega),by first | omega | (dsimp only; omega),by first | omega | (dsimp only; omega),by have := Zmo (a := some ⟨nb,0,none⟩) (c := nc) (rows := P.rows ++ [lvC L]) hsum; dsimp only; omega⟩,hS.took⟩ (by first | omega | (dsimp only; omega))
end Cr
namespace Cr
open Go Go.Proofs
set_option maxRecDepth 100000
set_option maxHeartbeats 8000000
attribute [local irreducible] Calls

def Z0b (m : Nat) : Prop := ∀ (v u : Mv) (cs ds : List Value) (W : World) (F : Nat → Prop),wM v ≤ m → Mrd (RoR W F) v cs → Mrd (RoR W F) u ds →
  Calls Tryz.prog 16 #[.agg (List.toArray cs),.agg (List.toArray ds)] W (Ret fun r w => r = .bool (eqM v u) ∧ St W noF [] w)
theorem eqf_ (m : Nat) (hm : m ≤ 1048576) (ih : Z0b m) (l l' : List Mv) (a a' : Option Addr) (c c' : Nat) (rows rows' : List (List Value)) (W : World) (hw : wMs l ≤ m) (hr : Ro W noF (row a rows.flatten)) (hM : Mrds (RoR W noF) l rows) (hr' : Ro W noF (row a' rows'.flatten)) (hM' : Mrds (RoR W noF) l' rows') :
  Calls Tryz.prog 58 #[.slice a l.length c,.slice a' l'.length c',.func (.func 16) #[] #[]] W (Ret fun r w => r = .bool (eqMs l l') ∧ St W noF [] w) := by
 have hS := St.start W
 have hwl := Zd4 l
 by_cases hlen : l.length = l'.length
 case neg =>
  rw [Zsh hlen]
  refine Zab Tryz.func58 rfl Tryz.ntmps58 rfl ?_
  repeat (first|refine Yd0 ?_|refine Yaf ?_|refine Yag ?_|refine Yav ?_|refine Ybl ?_|refine Yeh ?_|refine Yei ?_)
  exact ⟨rfl,hS.drops⟩
 rw [← hlen]
 refine Zab Tryz.func58 rfl Tryz.ntmps58 rfl ?_
 repeat (first|refine Yd0 ?_|refine Yaf ?_|refine Yag ?_|refine Yav ?_|refine Ybd ?_|refine Yex ?_|refine Yab ?_)
 refine Zak (α := Nat) (fun i => [(1,.slice a' l.length c'),(2,.func (.func 16) #[] #[]),(15,.slice a l.length c),(16,.int .i64 (l.length : Nat)),(17,.int .i64 (i : Nat))])
  (fun i w => i ≤ l.length ∧ eqMs l l' = eqMs (l.drop i) (l'.drop i) ∧ St W noF [] w) (fun i => l.length - i) 0 ⟨rfl,rfl,rfl,rfl,rfl,trivial⟩ ⟨Nat.zero_le _,rfl,hS⟩ ?_
 clear hS
 rintro i w ⟨hi,he,hS2⟩
 by_cases hlt : i < l.length
 ·have hlt' : i < l'.length := by omega
  obtain ⟨y,hyx⟩ : ∃ y,y = l[i] := ⟨_,rfl⟩
  have hy0 : l[i]? = some y := by rw [hyx]; exact List.getElem?_eq_getElem hlt
  obtain ⟨z,hzx⟩ : ∃ z,z = l'[i] := ⟨_,rfl⟩
  have hz0 : l'[i]? = some z := by rw [hzx]; exact List.getElem?_eq_getElem hlt'
  have hyw := Zhs (List.mem_of_getElem? hy0)
  have hd1 : l.drop i = y :: l.drop (i + 1) := by rw [List.drop_eq_getElem_cons hlt,← hyx]
  have hd2 : l'.drop i = z :: l'.drop (i + 1) := by rw [List.drop_eq_getElem_cons hlt',← hzx]
  rw [hd1,hd2,eqMs] at he
  obtain ⟨cs,hxs,hy⟩ := hM.at_ hy0
  obtain ⟨d1,e1,d2,e2,rows2,rfl,_⟩ := hy.lit
  obtain ⟨ds,hzs,hz⟩ := hM'.at_ hz0
  obtain ⟨f1,g1,f2,g2,rows3,rfl,_⟩ := hz.lit
  obtain ⟨ab,ao,rfl⟩ := hr.start.base (by
   intro e
   rw [e] at hxs
   simp at hxs)
  obtain ⟨bb,bo,rfl⟩ := hr'.start.base (by
   intro e
   rw [e] at hzs
   simp at hzs)
  have hS := hS2
  repeat (first|refine Yd0 ?_|refine Ye2 ?_|refine Yao (fun _ hS _ => ?_)|refine Yar (fun _ _ hS _ => ?_)|refine Yd4 ?_|refine Yab ?_)
  refine X_yl (Zco rfl rfl ((hr'.rd hS).cellsX (by omega) hzs rfl)) rfl rfl ?_
  repeat (first|refine Yd0 ?_|refine Yaf ?_|refine Ybe ?_|refine Yao (fun _ hS _ => ?_)|refine Yar (fun _ _ hS _ => ?_)|refine Yd1 ?_|refine Yab ?_)
  refine Zaa _ rfl rfl rfl rfl rfl (ih y z _ _ _ noF (by omega) (hy.mono fun _ _ h => (h.rd hS).ro) (hz.mono fun _ _ h => (h.rd hS).ro)) ?_
  rintro _ w ⟨rfl,hS'⟩
  replace hS := hS.plus hS'
  clear hS'
  cases hyz : eqM y z with
  | false =>
   rw [hyz,Bool.false_and] at he
   repeat (first|refine Yd0 ?_|refine Yag ?_|refine Ybo ?_|refine Yeh ?_|refine Yel ?_)
   rw [he]
   exact ⟨rfl,hS.drops⟩
  | true =>
   rw [hyz,Bool.true_and] at he
   repeat (first|refine Yd0 ?_|refine Yaf ?_|refine Ybb ?_|refine Yax ?_|refine Yer ?_|refine Yd8 ?_)
   exact Zaf (i + 1) ⟨rfl,rfl,rfl,rfl,rfl,trivial⟩ ⟨hlt,he,hS.drops⟩ (by omega)
 ·obtain rfl : i = l.length := by omega
  have hS := hS2
  rw [List.drop_length,hlen,List.drop_length,eqMs] at he
  rw [he]
  repeat (first|refine Yd0 ?_|refine Yag ?_|refine Ya3 ?_|refine Yd9 ?_|refine Yez ?_)
  exact ⟨rfl,hS.drops⟩
theorem Zxw : ∀ m : Nat,m ≤ 1048576 → Z0b m := by
 intro m
 induction m with
 | zero =>
  intro _ v u cs ds W F hw
  obtain ⟨k,n,b,l⟩ := v
  rw [Zht] at hw; omega
 | succ m ih =>
  intro hm v u cs ds W F hw hv hu
  have hS := St.start W
  obtain ⟨k,n,b,l⟩ := v
  obtain ⟨k',n',b',l'⟩ := u
  rw [Zht] at hw
  obtain ⟨a1,c1,a2,c2,rows,rfl,hc1,hb,hr,hM⟩ := hv.lit
  obtain ⟨d1,e1,d2,e2,rows',rfl,he1,hb',hr',hM'⟩ := hu.lit
  simp only [Mv.kind,Mv.num,Mv.txt,Mv.lst] at *
  have hE := fun W h1 h2 h3 h4 => eqf_ m (by omega) (ih (by omega)) l l' a2 d2 c2 e2 rows rows' W (by omega) h1 h2 h3 h4
  have hq := fun W h1 h2 => Zwk a1 d1 b.length b'.length c1 e1 b b' W h1 h2 rfl rfl
  replace hb : Ro W noF (bytes a1 b) := hb.start.ro
  replace hr : Ro W noF (row a2 rows.flatten) := hr.start.ro
  replace hM : Mrds (RoR W noF) l rows := hM.mono fun _ _ h => h.start.ro
  replace hb' : Ro W noF (bytes d1 b') := hb'.start.ro
  replace hr' : Ro W noF (row d2 rows'.flatten) := hr'.start.ro
  replace hM' : Mrds (RoR W noF) l' rows' := hM'.mono fun _ _ h => h.start.ro
  rw [eqM]
  by_cases hk : k = k'
  case neg =>
   rw [decide_eq_false hk,Bool.false_and]
   refine Zab Tryz.func16 rfl Tryz.ntmps16 rfl ?_
   repeat (first|refine Yej ?_|(refine X_id ?_;first|refine Yaf ?_|refine Yag ?_|refine Yan ?_|refine Ya4 ?_|refine Ybh ?_|refine Yap ?_|refine Ya6 (fun _ _ hS _ => ?_))|refine Yed ?_|refine Yd2 ?_)
   exact ⟨rfl,hS.drops⟩
  subst hk
  by_cases hn : n = n'
  case neg =>
   rw [decide_eq_false hn,Bool.false_and,Bool.and_false]
   refine Zab Tryz.func16 rfl Tryz.ntmps16 rfl ?_
   repeat (first|refine Yeu ?_|(refine X_id ?_;first|refine Yaf ?_|refine Yag ?_|refine Yan ?_|refine Ya5 ?_|refine Ya4 ?_|refine Ybi ?_|refine Ybh ?_|refine Yap ?_|refine Ya6 (fun _ _ hS _ => ?_))|refine Yed ?_|refine Yd2 ?_)
   exact ⟨rfl,hS.drops⟩
  subst hn
  by_cases hbb : b = b'
  case neg =>
   rw [decide_eq_false hbb,Bool.false_and,Bool.and_false,Bool.and_false]
   simp only [decide_eq_false hbb] at hq
   refine Zab Tryz.func16 rfl Tryz.ntmps16 rfl ?_
   repeat (first|refine Yeu ?_|(refine X_id ?_;first|(refine Zaa 57 rfl rfl rfl rfl rfl (hq _ (hb.rd hS) (hb'.rd hS)) ?_;rintro _ _ ⟨rfl,rfl⟩)|refine Yaf ?_|refine Yag ?_|refine Yan ?_|refine Ya5 ?_|refine Ya4 ?_|refine Ybi ?_|refine Yap ?_|refine Ya6 (fun _ _ hS _ => ?_))|refine Yed ?_|refine Yd2 ?_)
   exact ⟨rfl,hS.drops⟩
  rw [decide_eq_true rfl,decide_eq_true rfl,decide_eq_true hbb,Bool.true_and,Bool.true_and,Bool.true_and]
  simp only [decide_eq_true hbb] at hq
  refine Zab Tryz.func16 rfl Tryz.ntmps16 rfl ?_
  repeat (first|refine Yeg ?_|(refine X_id ?_;first|(refine Zaa 57 rfl rfl rfl rfl rfl (hq _ (hb.rd hS) (hb'.rd hS)) ?_;rintro _ _ ⟨rfl,rfl⟩)|refine Yaf ?_|refine Yag ?_|refine Yan ?_|refine Ya5 ?_|refine Ybi ?_|refine Yap ?_|refine Ya6 (fun _ _ hS _ => ?_))|refine Yd1 ?_|refine Yab ?_)
  refine Zaa _ rfl rfl rfl rfl rfl (hE _ (hr.rd hS).ro (hM.mono fun _ _ h => (h.rd hS).ro) (hr'.rd hS).ro (hM'.mono fun _ _ h => (h.rd hS).ro)) ?_
  rintro _ w ⟨rfl,hS'⟩
  replace hS := hS.plus hS'
  clear hS'
  repeat (first|refine Yd0 ?_|refine Yag ?_|refine Ya5 ?_|refine Yah ?_|refine Yd2 ?_)
  exact ⟨rfl,hS.drops⟩
theorem Z2x (v u : Mv) (cs ds : List Value) (W : World) (F : Nat → Prop) (hw : wM v ≤ 1048576) (hv : Mrd (RoR W F) v cs) (hu : Mrd (RoR W F) u ds) :
  Calls Tryz.prog 16 #[.agg (List.toArray cs),.agg (List.toArray ds)] W (Ret fun r w => r = .bool (eqM v u) ∧ St W noF [] w) := Zxw _ (Nat.le_refl _) v u cs ds W F hw hv hu
end Cr
namespace Cr
open Go Go.Proofs
set_option maxRecDepth 100000
set_option maxHeartbeats 8000000
attribute [local irreducible] Calls

section
variable {β : Type} {k : Int} (f : β → Value)
theorem Zmv : ∀ l : List (Int × β),getM k (l.map fun x => (x.1,f x.2)) = (getA k l).map f
 | [] => rfl
 | x :: l => by
  have ih := Zmv l
  simp only [List.map_cons,getM,getA] at ih ⊢
  split
  ·rfl
  ·exact ih
theorem Zmd {v : β} : ∀ l : List (Int × β),setM k (f v) (l.map fun x => (x.1,f x.2)) = (setA k v l).map fun x => (x.1,f x.2)
 | [] => rfl
 | x :: l => by
  have ih := Zmd (v := v) l
  simp only [List.map_cons,setM,setA] at ih ⊢
  split
  ·rfl
  ·rw [ih]; rfl
theorem Zm0 : ∀ l : List (Int × β),delM k (l.map fun x => (x.1,f x.2)) = (delA k l).map fun x => (x.1,f x.2)
 | [] => rfl
 | x :: l => by
  have ih := Zm0 l
  simp only [List.map_cons,delM,delA] at ih ⊢
  split
  ·rfl
  ·rw [ih]; rfl
theorem Zlc {v : β} {l : List (Int × β)} (h : (Zas l).Nodup) : (Zas (setA k v l)).Nodup := by
 induction l with
 | nil => simp [setA,Zas]
 | cons x l ih =>
  have h' : x.1 ∉ Zas l ∧ (Zas l).Nodup := List.nodup_cons.1 h
  unfold setA
  split
  ·rename_i e; simp only [Zas,List.map_cons] at h' ⊢; rw [e]; exact List.nodup_cons.2 h'
  ·rename_i e
   refine List.nodup_cons.2 ⟨fun hm => ?_,ih h'.2⟩
   have : getA x.1 (setA k v l) ≠ none := fun hn => (getA_none.1 hn) hm
   rw [Zdp,if_neg (fun q => e q.symm)] at this
   exact this (getA_none.2 h'.1)
theorem Zld {l : List (Int × β)} (h : (Zas l).Nodup) : (Zas (delA k l)).Nodup := h.sublist Zh2
theorem Znz {v : β} : ∀ {l : List (Int × β)} {x : Int × β},x ∈ setA k v l → x = (k,v) ∨ x ∈ l
 | [],x,h => by simp [setA] at h; exact .inl h
 | y :: l,x,h => by
  unfold setA at h
  split at h
  ·rcases List.mem_cons.1 h with h | h
   ·exact .inl h
   ·exact .inr (List.mem_cons_of_mem _ h)
  ·rcases List.mem_cons.1 h with h | h
   ·exact .inr (by rw [h]; exact List.mem_cons_self ..)
   ·exact (Znz h).imp id (List.mem_cons_of_mem _)
end
structure PN where
 nd : Nd
 a : Option Addr
 c : Nat
abbrev PN.val (x : PN) : Value := .agg (ndV x.nd x.a x.c).toArray
abbrev PV := List (Int × PN)
abbrev DV := List (Int × Bool)
def eff (T : Int → Option Nd) (P : PV) (D : DV) (no : Int) : Option Nd :=
 match getA no P with
 | some x => some x.nd
 | none => if (getA no D).getD false = true then none else T no
structure ChOk (T N : Int → Option Nd) (X : List RowD) (P : PV) (D : DV) : Prop where
 kp : (Zas P).Nodup
 kd : (Zas D).Nodup
 eff : ∀ no,Cr.eff T P D no = N no
 row : ∀ x ∈ P,RX X x.2.a (bv x.2.nd.data) ∧ x.2.nd.data.length ≤ x.2.c
abbrev chC (f : Nat) (b : Int) (pm dm : Nat) : Obj := .cells (List.toArray [.pointer (some ⟨f,0,none⟩),.int .i64 b,.bool false,.map (some pm),.map (some dm)]) 105 (0,0)
def PV.vals (P : PV) : List (Int × Value) := P.map fun x => (x.1,PN.val x.2)
def DV.vals (D : DV) : List (Int × Value) := D.map fun x => (x.1,Value.bool x.2)
theorem Z3s {k : Int} (P : PV) : getM k P.vals = (getA k P).map PN.val := Zmv _ _
theorem Z3t {k : Int} (D : DV) : getM k D.vals = (getA k D).map Value.bool := Zmv _ _
theorem Z2u {k : Int} {v : PN} (P : PV) : setM k v.val P.vals = PV.vals (setA k v P) := Zmd PN.val P
theorem Z2v {k : Int} {v : Bool} (D : DV) : setM k (.bool v) D.vals = DV.vals (setA k v D) := Zmd Value.bool D
theorem Z33 {k : Int} (P : PV) : delM k P.vals = PV.vals (delA k P) := Zm0 PN.val P
theorem Z34 {k : Int} (D : DV) : delM k D.vals = DV.vals (delA k D) := Zm0 Value.bool D
def chR (c f : Nat) (b : Int) (T N : Int → Option Nd) (X : List RowD) : Res := fun h => ∃ (P : PV) (D : DV) (pm dm : Nat),ChOk T N X P D ∧
 Sep [bag X,pts c (chC f b pm dm),mapq (Value.int .i64) pm P.vals,mapq (Value.int .i64) dm D.vals] h
structure TabOf (W : World) (F : Nat → Prop) (tp n : Nat) (T : Int → Option Nd) : Prop where
 nodes : ∀ w,(∀ r,Ro W F r → Rd w r) → Calls Tryz.prog 164 #[.pointer (some ⟨tp,0,none⟩)] w (Ret fun v w' => v = .int .i64 (n : Nat) ∧ w = w')
 get : ∀ w no,(∀ r,Ro W F r → Rd w r) → Calls Tryz.prog 86 #[.pointer (some ⟨tp,0,none⟩),.int .i64 no] w (Ret fun v w' => match T no with
  | none => v = .tuple #[nd0,.int .i64 7] ∧ St w noF [] w'
  | some x => ∃ a c,v = .tuple #[.agg (ndV x a c).toArray,.int .i64 0] ∧ x.data.length ≤ c ∧ St w noF [own 5 1 a c (bv x.data)] w')
theorem TabOf.mono {W W' : World} {F F' : Nat → Prop} {tp n : Nat} {T : Int → Option Nd} (h : TabOf W F tp n T) (hm : ∀ r,Ro W F r → Ro W' F' r) : TabOf W' F' tp n T :=
 ⟨fun w hw => h.nodes w fun r hr => hw r (hm r hr),fun w no hw => h.get w no fun r hr => hw r (hm r hr)⟩
structure TreeRo (W : World) (F : Nat → Prop) (f tp n : Nat) (b : Int) (T : Int → Option Nd) : Prop where
 blk : Ro W F (pts f (.cells (List.toArray [.pointer (some ⟨tp,0,none⟩),.int .i64 b]) 100 (0,0)))
 tab : TabOf W F tp n T
theorem TreeRo.mono {W W' : World} {F F' : Nat → Prop} {f tp n : Nat} {b : Int} {T : Int → Option Nd} (h : TreeRo W F f tp n b T) (hm : ∀ r,Ro W F r → Ro W' F' r) : TreeRo W' F' f tp n b T := ⟨hm _ h.blk,h.tab.mono hm⟩
section
variable {W : World} {F : Nat → Prop} {rs : List Res} {w : World} {c f : Nat} {b : Int} {T N : Int → Option Nd} {X : List RowD}
theorem St.openCh (hS : St W F (chR c f b T N X :: rs) w) : ∃ P D pm dm,ChOk T N X P D ∧ St W F (bag X :: pts c (chC f b pm dm) :: mapq (Value.int .i64) pm P.vals :: mapq (Value.int .i64) dm D.vals :: rs) w := by
 obtain ⟨h,⟨h1,h2,⟨P,D,pm,dm,hq,hs⟩,hr,hd,hu⟩,s⟩ := hS
 exact ⟨P,D,pm,dm,hq,h,Sep.append_mk hs hr hd hu,s⟩
theorem St.shutCh {P : PV} {D : DV} {pm dm : Nat} (hq : ChOk T N X P D) (hS : St W F (bag X :: pts c (chC f b pm dm) :: mapq (Value.int .i64) pm P.vals :: mapq (Value.int .i64) dm D.vals :: rs) w) : St W F (chR c f b T N X :: rs) w :=
 St.shutR (rs' := [bag X,pts c (chC f b pm dm),mapq (Value.int .i64) pm P.vals,mapq (Value.int .i64) dm D.vals]) hS fun _ hh => ⟨P,D,pm,dm,hq,hh⟩
theorem ChOk.more {X' : List RowD} {P : PV} {D : DV} (h : ChOk T N X P D) (hX : ∀ x ∈ X,x ∈ X') : ChOk T N X' P D := ⟨h.kp,h.kd,h.eff,fun x hx => ⟨(h.row x hx).1.sub hX,(h.row x hx).2⟩⟩
theorem Z4g {X Y : List RowD} {h1 h3 : Frag} (a : bag Y h1) (b : bag X h3) (d : ∀ k,h1 k = none ∨ h3 k = none) : bag (Y ++ X) (fun k => (h1 k).or (h3 k)) := fun x hx => by
 rcases List.mem_append.1 hx with hx | hx
 ·obtain ⟨h',hr,hs⟩ := a x hx
  exact ⟨h',hr,fun b o e => Zu5 (hs b o e)⟩
 ·obtain ⟨h',hr,hs⟩ := b x hx
  exact ⟨h',hr,fun b o e => Zrn d (hs b o e)⟩
theorem St.chAdd {Y : List RowD} (hS : St W F (bag Y :: chR c f b T N X :: rs) w) : St W F (chR c f b T N (Y ++ X) :: rs) w :=
 hS.merge fun h1 h3 hY ⟨P,D,pm,dm,hq,hs⟩ hd => ⟨P,D,pm,dm,hq.more fun x hx => List.mem_append_right _ hx,
  Sep.merge (Sep.append_mk (rs := [Cr.bag Y]) ⟨h1,fun _ => none,hY,Zyy,fun _ => .inr rfl,fun k => by simp⟩ hs hd fun _ => rfl) fun _ _ a b d => Z4g a b d⟩
theorem Rd.ch {w : World} (H : Rd w (chR c f b T N X)) : Rd w (Cr.bag X) := H.mono fun h ⟨_,_,_,_,_,h1,h2,a,_,_,u⟩ => ⟨h1,a,fun b o e => by rw [u,e]; rfl⟩
end
def Z2b (W : World) (F : Nat → Prop) (c f : Nat) (b : Int) (T N : Int → Option Nd) (X : List RowD) (no : Int) (v : Value) (w : World) : Prop :=
 ∃ X',(∀ x ∈ X,x ∈ X') ∧ St W F [chR c f b T N X'] w ∧ ∃ nd a q,v = .tuple #[.agg (ndV nd a q).toArray,.bool (N no).isSome] ∧ ∀ x,N no = some x → nd = x ∧ x.data.length ≤ q ∧ RX X' a (bv x.data)
theorem Z1c {c f tp n : Nat} {b : Int} {T N : Int → Option Nd} {X : List RowD} (no : Int) (W : World) (F : Nat → Prop) (hT : TreeRo W F f tp n b T) (hS : St W F [chR c f b T N X] W) :
  Calls Tryz.prog 165 #[.pointer (some ⟨c,0,none⟩),.int .i64 no] W (Ret fun v w => Z2b W F c f b T N X no v w) := by
 obtain ⟨P,D,pm,dm,hq,hS⟩ := hS.openCh
 have hc := hT.blk
 refine Zab Tryz.func165 rfl Tryz.ntmps165 rfl ?_
 repeat (first|refine Yd0 ?_|(refine X_id ?_;first|refine Yaf ?_|refine Yag ?_|refine Yau ?_|refine Yan ?_|refine Yap ?_|refine Yar (fun _ _ hS _ => ?_))|refine Yd1 ?_|refine Yab ?_)
 refine X_yl (Zgt (mk := Value.int .i64) (L := P.vals) (k := no) rfl rfl rfl ((hS.rd (by simp)).mapq_r)) rfl rfl ?_
 rw [Z3s]
 have he := hq.eff no
 unfold eff at he
 cases hg : getA no P with
 | some x =>
  rw [hg] at he
  simp only [Option.map_some,Option.getD_some,Option.isSome_some]
  repeat (first|refine Yd0 ?_|(refine X_id ?_;first|refine Yaf ?_|refine Yag ?_|refine Ya1 ?_|refine Ybe ?_|refine Yao (fun _ hS _ => ?_)|refine Yar (fun _ _ hS _ => ?_))|refine Yeh ?_|refine Yab ?_|refine Yaq ?_|refine Yby ?_)
  have hS : St W F [bag X,pts c (chC f b pm dm),mapq (Value.int .i64) pm P.vals,mapq (Value.int .i64) dm D.vals] _ := hS.took
  obtain ⟨h1,h2⟩ := hq.row _ (Zi6 hg)
  exact ⟨X,fun _ h => h,hS.shutCh hq,x.nd,x.a,x.c,by rw [← he]; rfl,fun y hy => by rw [← he] at hy; cases hy; exact ⟨rfl,h2,h1⟩⟩
 | none =>
  rw [hg] at he
  simp only [Option.map_none,Option.getD_none,Option.isSome_none]
  repeat (first|refine Yd0 ?_|(refine X_id ?_;first|refine Yaf ?_|refine Yag ?_|refine Yau ?_|refine Yan ?_|refine Ya1 ?_|refine Yap ?_|refine Yao (fun _ hS _ => ?_)|refine Yar (fun _ _ hS _ => ?_)|refine Yca ?_)|refine Yeb ?_|refine Yab ?_)
  refine Zaa _ rfl rfl rfl rfl rfl (hT.tab.get _ no fun r h => h.rd hS) ?_
  rintro v w hV
  cases hTn : T no with
  | none =>
   rw [hTn] at hV
   obtain ⟨rfl,hS'⟩ := hV
   replace hS := hS.plus hS'
   clear hS'
   have hN : N no = none := by rw [← he]; simp [hTn]
   repeat (first|refine Yd0 ?_|refine Yes ?_|refine Yao (fun _ hS _ => ?_)|refine Yar (fun _ _ hS _ => ?_)|refine Yae ?_|refine Yab ?_)
   refine Zao (.s 0 (.s 1 (.s 2 (.s 3 (.s 4 (.s 5 (.s 6 (.s 7 (.s 8 (.s 9 (.s 10 (.s 11 (.h 12 (.s 13 .nil) .no))))))))))))) mixed (by kernel_rfl) rfl ?_
   have hS := hS.drew
   repeat (first|refine Yao (fun _ hS _ => ?_)|refine Yah ?_|refine Yab ?_|refine Yby ?_|(refine Zad ?_;first|refine Yay ?_|refine Ya0 ?_|refine Ybn ?_|refine Ycf ?_|refine Ydv ?_|refine Yb1 ?_|refine Yas ?_|refine Ycj ?_)|(refine Zac ?_;first|refine Ydc ?_))
   have hS : St W F [bag X,pts c (chC f b pm dm),mapq (Value.int .i64) pm P.vals,mapq (Value.int .i64) dm D.vals] _ := hS.took
   exact ⟨X,fun _ h => h,hS.shutCh hq,⟨⟨0,0,0,0⟩,[]⟩,none,0,by rw [hN]; rfl,fun y hy => by rw [hN] at hy; cases hy⟩
  | some x =>
   rw [hTn] at hV
   obtain ⟨a,q,rfl,hq2,hS'⟩ := hV
   replace hS := hS.plus hS'
   clear hS'
   repeat (first|refine Yd0 ?_|refine Yes ?_|refine Yao (fun _ hS _ => ?_)|refine Yar (fun _ _ hS _ => ?_)|refine Yae ?_|refine Yab ?_)
   refine Zao (.s 0 (.s 1 (.s 2 (.s 3 (.s 4 (.s 5 (.s 6 (.s 7 (.s 8 (.s 9 (.s 10 (.s 11 (.h 12 (.s 13 .nil) .no))))))))))))) mixed (by kernel_rfl) rfl ?_
   have hS := hS.drew
   repeat (first|(refine Zad ?_;first|refine Ya0 ?_|refine Ydo ?_|refine Yb1 ?_|refine Yce ?_|refine Ycw ?_|refine Ycu ?_|refine Yc4 ?_))
   refine Zdu (fun w' => Rd w' (mapr (Value.int .i64) dm D.vals)) rfl rfl rfl rfl ((hS.rd (by simp)).mapq_r) (fun _ h => Zhp (mk := Value.int .i64) (L := D.vals) (k := no) rfl rfl rfl h) rfl rfl ?_
   rw [Z3t]
   obtain ⟨d,hd⟩ : ∃ d,d = (getA no D).getD false := ⟨_,rfl⟩
   have hdv : ((getA no D).map Value.bool).getD (.bool false) = .bool d := by rw [hd]; cases getA no D <;> rfl
   rw [hdv]
   repeat (first|refine Yao (fun _ hS _ => ?_)|refine Yah ?_|refine Yab ?_|refine Yby ?_|(refine Zad ?_;first|refine Yay ?_|refine Ybn ?_|refine Ycd ?_|refine Yas ?_|refine Zcb rfl rfl rfl rfl (fun _ => Zm9 rfl rfl) rfl rfl ?_)|(refine Zac ?_;first|refine Ydc ?_))
   have hS : St W F [own 5 1 a q (bv x.data),bag X,pts c (chC f b pm dm),mapq (Value.int .i64) pm P.vals,mapq (Value.int .i64) dm D.vals] _ := hS.took
   have hS := hS.bagAdd (a := a) (cs := bv x.data) fun _ h => h.row
   refine ⟨(a,bv x.data) :: X,fun _ h => List.mem_cons_of_mem _ h,hS.shutCh (hq.more fun _ h => List.mem_cons_of_mem _ h),x,a,q,?_,fun y hy => ?_⟩
   ·rw [← he,← hd,hTn]; cases d <;> rfl
   ·rw [← he,hTn] at hy
    simp only at hy
    split at hy
    ·cases hy
    ·cases hy; exact ⟨rfl,hq2,.mem (List.mem_cons_self ..)⟩
theorem Z4b {T N : Int → Option Nd} {X X' : List RowD} {P : PV} {D : DV} (h : ChOk T N X P D) (hX : ∀ x ∈ X,x ∈ X') (no : Int) (nd : Nd) (a : Option Addr) (q : Nat) (hr : RX X' a (bv nd.data)) (hq : nd.data.length ≤ q) : ChOk T (fun k => if k = no then some nd else N k) X' (setA no ⟨nd,a,q⟩ P) (delA no D) := by
 refine ⟨Zlc h.kp,Zld h.kd,fun k => ?_,fun x hx => ?_⟩
 ·have he := h.eff k
  unfold Cr.eff at he ⊢
  rw [Zdp,Zfc h.kd]
  by_cases hk : k = no
  ·rw [if_pos hk]; simp [hk]
  ·simp only [if_neg hk]; exact he
 ·rcases Znz hx with rfl | hx
  ·exact ⟨hr,hq⟩
  ·exact ⟨(h.row x hx).1.sub hX,(h.row x hx).2⟩
theorem Z12 {T N : Int → Option Nd} {X : List RowD} {P : PV} {D : DV} (h : ChOk T N X P D) (no : Int) : ChOk T (fun k => if k = no then none else N k) X (delA no P) (setA no true D) := by
 refine ⟨Zld h.kp,Zlc h.kd,fun k => ?_,fun x hx => h.row x (delA_sub.subset hx)⟩
 have he := h.eff k
 unfold Cr.eff at he ⊢
 rw [Zdp,Zfc h.kp]
 by_cases hk : k = no
 ·simp [hk]
 ·simp only [if_neg hk]; exact he
theorem set_ {c f : Nat} {b : Int} {T N : Int → Option Nd} {X : List RowD} (no : Int) (nd : Nd) (a : Option Addr) (q : Nat) (W : World) (F : Nat → Prop) (ha : Ro W F (bytes a nd.data) ∨ RX X a (bv nd.data)) (hl : nd.data.length ≤ 1073741824) (hS : St W F [chR c f b T N X] W) :
  Calls Tryz.prog 96 #[.pointer (some ⟨c,0,none⟩),.int .i64 no,.agg (List.toArray [.int .i64 nd.st.kind,.int .i64 nd.st.mode,.int .i64 nd.st.owner,.int .i64 nd.st.group,.slice a nd.data.length q])] W (Ret fun v w => v = .tuple #[] ∧ ∃ X',(∀ x ∈ X,x ∈ X') ∧ St W F [chR c f b T (fun k => if k = no then some nd else N k) X'] w) := by
 obtain ⟨P,D,pm,dm,hq,hS⟩ := hS.openCh
 refine Zab Tryz.func96 rfl Tryz.ntmps96 rfl ?_
 repeat (first|refine Yd0 ?_|(refine X_id ?_;first|refine Yaf ?_|refine Yau ?_|refine Yan ?_|refine Yap ?_|refine Ya6 (fun _ _ hS _ => ?_))|refine Yd1 ?_|refine Yab ?_)
 have hS := hS.pick [4,0,0,0,0]
 refine Zfk (mk := Value.int .i64) (L := D.vals) (k := no) rfl rfl rfl rfl hS (fun w hS => ?_)
 rw [Z34] at hS
 repeat (first|refine Yac ?_|refine Yab ?_)
 refine Zao (.s 0 (.s 1 (.s 2 (.s 3 (.s 4 (.s 5 (.s 6 (.s 7 (.s 8 (.h 9 (.s 10 (.h 11 .nil .no)) .no)))))))))) mixed (by kernel_rfl) rfl ?_
 have hS := hS.drew
 repeat (first|(refine Zad ?_;first|refine Ya0 ?_|refine Ybq ?_|refine Ybj ?_|refine Ybm ?_|refine Yb1 ?_|refine Yas ?_))
 refine Zaa _ rfl rfl rfl rfl rfl (Zew a nd.data.length q nd.data _ (by
  rcases ha with ha | ha
  ·exact ha.rd hS
  ·exact ha.rd (hS.rd (r := bag X) (by simp))) rfl hl) ?_
 rintro _ w ⟨a',q',rfl,_,hqq,hS'⟩
 replace hS := hS.plus hS'
 clear hS'
 repeat (first|(refine Zad ?_;first|refine Ycb ?_|refine Yas ?_)|(refine Zac ?_;first|refine Ydc ?_))
 have hS := hS.pick [5,0,2,2,0]
 refine Zd3 (mk := Value.int .i64) (L := P.vals) (k := no) rfl rfl rfl rfl rfl hS (fun w hS => ?_)
 rw [show (Value.agg (List.toArray [.int .i64 nd.st.kind,.int .i64 nd.st.mode,.int .i64 nd.st.owner,.int .i64 nd.st.group,.slice a' nd.data.length q'])) = PN.val ⟨nd,a',q'⟩ from rfl,Z2u] at hS
 repeat (first|refine Ybs ?_|(refine Zad ?_;first|refine Yay ?_)|(refine Zac ?_;first|refine Ydc ?_))
 have hS : St W F [own 5 1 a' q' (bv nd.data),bag X,pts c (chC f b pm dm),mapq (Value.int .i64) pm (PV.vals (setA no ⟨nd,a',q'⟩ P)),mapq (Value.int .i64) dm (DV.vals (delA no D))] _ := hS.took
 have hS := hS.bagAdd (a := a') (cs := bv nd.data) fun _ h => h.row
 exact ⟨rfl,_,fun _ h => List.mem_cons_of_mem _ h,hS.shutCh (Z4b hq (fun _ h => List.mem_cons_of_mem _ h) no nd a' q' (.mem (List.mem_cons_self ..)) hqq)⟩
theorem Z3r {c f : Nat} {b : Int} {T N : Int → Option Nd} {X : List RowD} (no : Int) (W : World) (F : Nat → Prop) (hS : St W F [chR c f b T N X] W) :
  Calls Tryz.prog 108 #[.pointer (some ⟨c,0,none⟩),.int .i64 no] W (Ret fun v w => v = .tuple #[] ∧ St W F [chR c f b T (fun k => if k = no then none else N k) X] w) := by
 obtain ⟨P,D,pm,dm,hq,hS⟩ := hS.openCh
 refine Zab Tryz.func108 rfl Tryz.ntmps108 rfl ?_
 repeat (first|refine Yaa ?_|refine Yaf ?_|refine Yau ?_|refine Yan ?_|refine Yap ?_|refine Yd1 ?_)
 have hS := hS.pick [2,0,0,0]
 refine Zfk (mk := Value.int .i64) (L := P.vals) (k := no) rfl rfl rfl rfl hS (fun w hS => ?_)
 rw [Z33] at hS
 repeat (first|refine Yd0 ?_|refine Yaf ?_|refine Yau ?_|refine Yan ?_|refine Yap ?_|refine Yad ?_|refine Yab ?_)
 have hS := hS.pick [3,0,0,0]
 refine Zd3 (mk := Value.int .i64) (L := D.vals) (k := no) rfl rfl rfl rfl rfl hS (fun w hS => ?_)
 rw [Z2v] at hS
 repeat (first|refine Yac ?_|refine Ybs ?_)
 have hS : St W F [bag X,pts c (chC f b pm dm),mapq (Value.int .i64) pm (PV.vals (delA no P)),mapq (Value.int .i64) dm (DV.vals (setA no true D))] _ := hS.took
 exact ⟨rfl,hS.shutCh (Z12 hq no)⟩
end Cr
namespace Cr
open Go Go.Proofs
set_option maxRecDepth 100000
set_option maxHeartbeats 4000000
attribute [local irreducible] Calls

def Ze3 (s : List UInt8) (i : Nat) (e : Int) (k : UInt8) : Nat × Int :=
 if e ≠ 0 then (i,e) else if ¬ i < s.length then (i,4) else if s[i]? = some k then (i + 1,0) else (i,3)
theorem Zxq (p : Nat) (a : Option Addr) (s : List UInt8) (c : Nat) (i : Nat) (e : Int) (k : UInt8) (W : World) (F : Nat → Prop) (hS : St W F [Rdr p a s.length c i e] W) (hb : Ro W F (bytes a s)) (hl : s.length ≤ 1099511627776) :
  Calls Tryz.prog 181 #[.pointer (some ⟨p,0,none⟩),.int .u8 (k.toNat : Int)] W (Ret fun v w => v = .tuple #[] ∧ St W F [Rdr p a s.length c (Ze3 s i e k).1 (Ze3 s i e k).2] w) := by
 by_cases he : e = 0
 ·subst he
  by_cases h : i < s.length
  ·have hm := Zh9 p a s.length c i 0
   simp only [decide_eq_true h] at hm
   have hq := is_ p a s c i 0 k
   by_cases hk : s[i]? = some k
   ·simp only [decide_eq_true hk] at hq
    rw [show Ze3 s i 0 k = (i + 1,0) by unfold Ze3; rw [if_neg (by simp),if_neg (by simpa using h),if_pos hk]]
    refine Zab Tryz.func181 rfl Tryz.ntmps181 rfl ?_
    repeat (first|refine Yd0 ?_|(refine X_id ?_;first|(refine Zae 177 rfl rfl rfl rfl rfl hS (hm _ (hS.rd (List.mem_cons_self ..))) ?_;rintro _ _ rfl hS)|(refine Zae 179 rfl rfl rfl rfl rfl hS (hq _ (hS.rd (List.mem_cons_self ..)) (hb.rd hS)) ?_;rintro _ _ rfl hS)|refine Yaf ?_|refine Yag ?_|refine Yau ?_|refine Yan ?_|refine Ybb ?_|refine Ybd ?_|refine Yax ?_|refine Yap ?_|refine Yao (fun _ hS _ => ?_))|refine Yem ?_|refine Yab ?_|refine Yat ?_|refine Ybs ?_)
    exact ⟨rfl,hS⟩
   ·simp only [decide_eq_false hk] at hq
    rw [show Ze3 s i 0 k = (i,3) by unfold Ze3; rw [if_neg (by simp),if_neg (by simpa using h),if_neg hk]]
    refine Zab Tryz.func181 rfl Tryz.ntmps181 rfl ?_
    repeat (first|refine Yd0 ?_|(refine X_id ?_;first|(refine Zae 177 rfl rfl rfl rfl rfl hS (hm _ (hS.rd (List.mem_cons_self ..))) ?_;rintro _ _ rfl hS)|(refine Zae 179 rfl rfl rfl rfl rfl hS (hq _ (hS.rd (List.mem_cons_self ..)) (hb.rd hS)) ?_;rintro _ _ rfl hS)|refine Yaf ?_|refine Yag ?_|refine Yau ?_|refine Yan ?_|refine Ybb ?_|refine Ybo ?_|refine Ybd ?_|refine Yap ?_)|refine Ye7 ?_|refine Yab ?_)
    obtain ⟨_,hc,hr,hw,hbk⟩ := hS.call [true]
    refine Zaa _ rfl rfl rfl rfl rfl (Zjd p a s.length c i 0 3 _ _ hc) ?_
    rintro _ w ⟨rfl,hS⟩
    replace hS := hbk hS
    clear hc hr hw hbk
    repeat (first|refine Yac ?_|refine Yat ?_|refine Ybs ?_)
    exact ⟨rfl,hS⟩
  ·have hm := Zh9 p a s.length c i 0
   simp only [decide_eq_false h] at hm
   rw [show Ze3 s i 0 k = (i,4) by unfold Ze3; rw [if_neg (by simp),if_pos h]]
   refine Zab Tryz.func181 rfl Tryz.ntmps181 rfl ?_
   repeat (first|refine Yd0 ?_|(refine X_id ?_;first|(refine Zae 177 rfl rfl rfl rfl rfl hS (hm _ (hS.rd (List.mem_cons_self ..))) ?_;rintro _ _ rfl hS)|refine Yaf ?_|refine Yag ?_|refine Yau ?_|refine Yan ?_|refine Ybo ?_|refine Ybd ?_|refine Yap ?_)|refine Ye7 ?_|refine Yab ?_)
   obtain ⟨_,hc,hr,hw,hbk⟩ := hS.call [true]
   refine Zaa _ rfl rfl rfl rfl rfl (Zjd p a s.length c i 0 4 _ _ hc) ?_
   rintro _ w ⟨rfl,hS⟩
   replace hS := hbk hS
   clear hc hr hw hbk
   repeat (first|refine Yac ?_|refine Yat ?_|refine Ybs ?_)
   exact ⟨rfl,hS⟩
 ·rw [show Ze3 s i e k = (i,e) by unfold Ze3; rw [if_pos he]]
  refine Zab Tryz.func181 rfl Tryz.ntmps181 rfl ?_
  repeat (first|refine Yd0 ?_|(refine X_id ?_;first|refine Yaf ?_|refine Yag ?_|refine Yau ?_|refine Yan ?_|refine Ybl ?_|refine Yap ?_)|refine Yd4 ?_|refine Yab ?_|refine Yat ?_|refine Ybs ?_)
  exact ⟨rfl,hS⟩
theorem Zxp (p : Nat) (a : Option Addr) (n c : Nat) (i : Nat) (e : Int) (k : UInt8) (W : World) (F : Nat → Prop) (hS : St W F [Rdr p a n c i e] W) (he : e ≠ 0) :
  Calls Tryz.prog 181 #[.pointer (some ⟨p,0,none⟩),.int .u8 (k.toNat : Int)] W (Ret fun v w => v = .tuple #[] ∧ St W F [Rdr p a n c i e] w) := by
 refine Zab Tryz.func181 rfl Tryz.ntmps181 rfl ?_
 repeat (first|refine Yd0 ?_|(refine X_id ?_;first|refine Yaf ?_|refine Yag ?_|refine Yau ?_|refine Yan ?_|refine Ybl ?_|refine Yap ?_)|refine Yd4 ?_|refine Yab ?_|refine Yat ?_|refine Ybs ?_)
 exact ⟨rfl,hS⟩
theorem Zf7 {p : UInt8 → Bool} : ∀ {l : List UInt8} {j : Nat},(∀ i c,i < j → l[i]? = some c → p c = true) → (∀ c,l[j]? = some c → p c = false) → j ≤ l.length → (l.takeWhile p).length = j
 | [],j,_,_,h => by simp at h; simp [h]
 | x :: l,0,_,h2,_ => by rw [List.takeWhile_cons,if_neg (by rw [h2 x rfl]; simp)]; rfl
 | x :: l,j + 1,h1,h2,h => by
  rw [List.takeWhile_cons,if_pos (h1 0 x (by omega) rfl),List.length_cons,Zf7 (j := j) (fun i c hi hc => h1 (i + 1) c (by omega) (by simpa using hc)) (fun c hc => h2 c (by simpa using hc)) (by simpa using h)]
theorem Zu7 {s : List UInt8} {i : Nat} {below : Bool} {j : Nat} (h1 : ∀ k c,k < j → s[i + (sgn below (s.drop i)).length + k]? = some c → dig c = true) (h2 : ∀ c,s[i + (sgn below (s.drop i)).length + j]? = some c → dig c = false) (hj : i + (sgn below (s.drop i)).length + j ≤ s.length) :
  (numS below (s.drop i)).length = (sgn below (s.drop i)).length + j := by
 unfold numS
 generalize (sgn below (s.drop i)) = g at *
 rw [List.length_append,List.drop_drop,Zf7 (j := j) (fun k c hk hc => h1 k c hk (by rw [List.getElem?_drop] at hc; exact hc)) (fun c hc => h2 c (by rw [List.getElem?_drop] at hc; exact hc)) (by simp; omega)]
theorem Zre {s : List UInt8} {i : Nat} {below : Bool} : sgn below (s.drop i) = if below = true ∧ s[i]? = some 45 then [45] else [] := by
 unfold sgn
 rw [List.head?_drop]
end Cr
namespace Cr
open Go Go.Proofs
set_option maxRecDepth 100000
set_option maxHeartbeats 4000000
attribute [local irreducible] Calls

theorem Zxs {s : List UInt8} {i n : Nat} {t : List UInt8} (h : (s.drop i).take n = t) : (s.drop i).take (i + n - i) = t := by
 rw [show i + n - i = n by omega]; exact h
theorem Z5m {x : UInt8} (h : dig x = true) : ¬ ((x.toNat : Int) < 48) ∧ ¬ ((57 : Int) < (x.toNat : Int)) := by
 have := dig_iff.1 h
 constructor <;> omega
theorem Z5n {x : UInt8} (h : ¬ dig x = true) : ((x.toNat : Int) < 48) ∨ (¬ ((x.toNat : Int) < 48) ∧ (57 : Int) < (x.toNat : Int)) := by
 have h2 : ¬ (48 ≤ x.toNat ∧ x.toNat ≤ 57) := fun q => h (dig_iff.2 q)
 rcases Nat.lt_or_ge x.toNat 48 with h3 | h3
 ·exact .inl (by omega)
 ·exact .inr ⟨by omega,by omega⟩
theorem St.conv {W : World} {F : Nat → Prop} {rs rs' : List Res} {w : World} (h : St W F rs w) (e : rs = rs') : St W F rs' w := e ▸ h
theorem Z1w (p : Nat) (a : Option Addr) (s : List UInt8) (c : Nat) (hsc : s.length ≤ c) (i : Nat) (e : Int) (below : Bool) (W : World) (F : Nat → Prop) (hS : St W F [Rdr p a s.length c i e] W) (hb : Ro W F (bytes a s)) (hl : s.length ≤ 1099511627776) (hi : i ≤ s.length) :
  Calls Tryz.prog 225 #[.pointer (some ⟨p,0,none⟩),.bool below] W (Ret fun v w => v = .string (str (numS below (s.drop i))) ∧ St W F [Rdr p a s.length c (i + (numS below (s.drop i)).length) e] w) := by
 have hq := is_ p a s c i e 45
 have hm := Zh9 p a s.length c
 obtain ⟨g,hg⟩ : ∃ g,(sgn below (s.drop i)).length = g := ⟨_,rfl⟩
 have hgi : i + g ≤ s.length := by
  rw [← hg,Zre]
  split
  ·rename_i h
   have := (List.getElem?_eq_some_iff.1 h.2).1
   simp; omega
  ·simpa using hi
 have h3 : (below = true ∧ s[i]? = some 45 ∧ g = 1) ∨ (below = true ∧ ¬ s[i]? = some 45 ∧ g = 0) ∨ (below = false ∧ g = 0) := by
  rw [Zre] at hg
  cases below
  ·exact .inr (.inr ⟨rfl,by rw [← hg]; simp⟩)
  ·by_cases hk : s[i]? = some 45
   ·exact .inl ⟨rfl,hk,by rw [← hg,if_pos ⟨rfl,hk⟩]; rfl⟩
   ·exact .inr (.inl ⟨rfl,hk,by rw [← hg,if_neg (fun h => hk h.2)]; rfl⟩)
 have hstop := fun j => Zu7 (s := s) (i := i) (below := below) (j := j)
 rw [hg] at hstop
 have htk := Zha below (s.drop i)
 generalize numS below (s.drop i) = T at hstop htk ⊢
 clear hg
 refine Zab Tryz.func225 rfl Tryz.ntmps225 rfl ?_
 rcases h3 with ⟨rfl,hk,hg⟩ | ⟨rfl,hk,hg⟩ | ⟨rfl,hg⟩
 case' inl =>
  simp only [decide_eq_true hk] at hq
  repeat (first|refine Yeg ?_|(refine X_id ?_;first|(refine Zae 179 rfl rfl rfl rfl rfl hS (hq _ (hS.rd (List.mem_cons_self ..)) (hb.rd hS)) ?_;rintro _ _ rfl hS)|refine Yaf ?_|refine Yag ?_|refine Yau ?_|refine Yan ?_|refine Ya5 ?_|refine Yax ?_|refine Yap ?_|refine Yao (fun _ hS _ => ?_))|refine Yae ?_|refine Zid ?_|refine Ycm ?_|refine Yad ?_|refine Yal ?_|refine Yaj ?_|refine Yab ?_)
  have hS := hS.conv (rs' := [Rdr p a s.length c (i + g) e]) (by rw [hg]; rfl)
 case' inr.inl =>
  simp only [decide_eq_false hk] at hq
  repeat (first|refine Yeg ?_|(refine X_id ?_;first|(refine Zae 179 rfl rfl rfl rfl rfl hS (hq _ (hS.rd (List.mem_cons_self ..)) (hb.rd hS)) ?_;rintro _ _ rfl hS)|refine Yaf ?_|refine Yag ?_|refine Yau ?_|refine Yan ?_|refine Ya5 ?_|refine Yap ?_)|refine Yae ?_|refine Zid ?_|refine Ycm ?_|refine Yad ?_|refine Yal ?_|refine Yak ?_|refine Yai ?_|refine Yab ?_)
  have hS := hS.conv (rs' := [Rdr p a s.length c (i + g) e]) (by rw [hg]; rfl)
 case' inr.inr =>
  repeat (first|refine Yej ?_|(refine X_id ?_;first|refine Yaf ?_|refine Yag ?_|refine Yau ?_|refine Yan ?_|refine Ya4 ?_|refine Yap ?_)|refine Yae ?_|refine Zid ?_|refine Ycm ?_|refine Yad ?_|refine Yal ?_|refine Yak ?_|refine Yai ?_|refine Yab ?_)
  have hS := hS.conv (rs' := [Rdr p a s.length c (i + g) e]) (by rw [hg]; rfl)
 all_goals
  clear hq hg
  refine Zcp (α := Unit) (fun _ => [(0,.pointer (some ⟨p,0,none⟩)),(5,.int .i64 (i : Nat))]) (fun _ w => i + T.length ≤ s.length ∧ St W F [Rdr p a s.length c (i + T.length) e] w) ?_ ?_
  ·refine Zak (α := Nat) (fun _ => [(0,.pointer (some ⟨p,0,none⟩)),(5,.int .i64 (i : Nat))])
    (fun j w => i + g + j ≤ s.length ∧ (∀ k c,k < j → s[i + g + k]? = some c → dig c = true) ∧ St W F [Rdr p a s.length c (i + g + j) e] w) (fun j => s.length - j) 0 ⟨rfl,rfl,trivial⟩ ⟨hgi,fun k c hk => by omega,hS⟩ ?_
   clear hS
   rintro j w ⟨hj,hd,hS⟩
   by_cases hlt : i + g + j < s.length
   ·obtain ⟨ab,ao,rfl⟩ := hb.start.base (by intro e; have := Zaq s; rw [e] at this; simp at this; omega)
    have hm := hm (i + g + j) e
    simp only [decide_eq_true hlt] at hm
    obtain ⟨x,hx⟩ : ∃ x,s[i + g + j]? = some x := ⟨_,List.getElem?_eq_getElem hlt⟩
    have hx2 : s.getD ((((i + g + j : Nat) : Int)).toNat * 1) 0 = x := by
     rw [List.getD_eq_getElem?_getD,show ((((i + g + j : Nat) : Int)).toNat * 1) = i + g + j by omega,hx]; rfl
    by_cases hdx : dig x = true
    ·obtain ⟨d1,d2⟩ := Z5m hdx
     rw [← hx2] at d1 d2
     repeat (first|refine Yd0 ?_|(refine X_id ?_;first|(refine Zae 177 rfl rfl rfl rfl rfl hS (hm _ (hS.rd (List.mem_cons_self ..))) ?_;rintro _ _ rfl hS)|refine Yaf ?_|refine Yau ?_|refine Yan ?_)|refine Yd4 ?_|refine Yab ?_)
     refine Zao (.s 0 (.s 1 (.s 2 (.s 3 (.s 4 (.s 5 (.s 6 (.s 7 (.s 8 (.s 9 (.s 10 (.s 11 (.s 12 .nil))))))))))))) mixed (by kernel_rfl) rfl ?_
     have hS := hS.drew
     repeat (first|refine Yeg ?_|(refine X_id ?_;first|refine Yaf ?_|refine Yag ?_|refine Yau ?_|refine Yan ?_|refine Ya4 ?_|refine Ya3 ?_|refine Ybu ?_|refine Yax ?_|refine Yap ?_|refine Yao (fun _ hS _ => ?_))|refine Yex ?_|refine Yd8 ?_|(refine Zad ?_;first|refine Yay ?_|refine Ya0 ?_|refine Ybn ?_|refine Ybq ?_|refine Ybj ?_|refine Ybw ?_|refine Ybm ?_|refine Ydx ?_))
     refine Zaf (j + 1) ⟨rfl,rfl,trivial⟩ ⟨by omega,fun k c hk hc => ?_,hS⟩ (by omega)
     rcases Nat.lt_or_ge k j with h | h
     ·exact hd k c h hc
     ·obtain rfl : k = j := by omega
      rw [hx] at hc
      rw [← Option.some.inj hc]; exact hdx
    ·have hT := hstop j hd (fun c hc => by
      rw [hx] at hc
      rw [← Option.some.inj hc]; simpa using hdx) hj
     rcases Z5n hdx with d1 | ⟨d1,d2⟩
     ·rw [← hx2] at d1
      repeat (first|refine Yd0 ?_|(refine X_id ?_;first|(refine Zae 177 rfl rfl rfl rfl rfl hS (hm _ (hS.rd (List.mem_cons_self ..))) ?_;rintro _ _ rfl hS)|refine Yaf ?_|refine Yau ?_|refine Yan ?_)|refine Yd4 ?_|refine Yab ?_)
      refine Zao (.s 0 (.s 1 (.s 2 (.s 3 (.s 4 (.s 5 (.s 6 (.s 7 (.s 8 (.s 9 (.s 10 (.s 11 (.s 12 .nil))))))))))))) mixed (by kernel_rfl) rfl ?_
      have hS := hS.drew
      repeat (first|refine Yej ?_|refine Yaf ?_|refine Yag ?_|refine Ya5 ?_|refine Ya2 ?_|refine Yae ?_|refine Yad ?_|refine Yal ?_|refine Ya8 ?_|refine Yaj ?_|refine Ye6 ?_|(refine Zad ?_;first|refine Yay ?_|refine Ya0 ?_|refine Ybn ?_|refine Ybq ?_|refine Ybj ?_|refine Ybw ?_|refine Ybm ?_|refine Ydx ?_))
      exact Zbi () ⟨rfl,rfl,trivial⟩ ⟨by omega,hS.conv (by rw [hT,Nat.add_assoc])⟩
     ·rw [← hx2] at d1 d2
      repeat (first|refine Yd0 ?_|(refine X_id ?_;first|(refine Zae 177 rfl rfl rfl rfl rfl hS (hm _ (hS.rd (List.mem_cons_self ..))) ?_;rintro _ _ rfl hS)|refine Yaf ?_|refine Yau ?_|refine Yan ?_)|refine Yd4 ?_|refine Yab ?_)
      refine Zao (.s 0 (.s 1 (.s 2 (.s 3 (.s 4 (.s 5 (.s 6 (.s 7 (.s 8 (.s 9 (.s 10 (.s 11 (.s 12 .nil))))))))))))) mixed (by kernel_rfl) rfl ?_
      have hS := hS.drew
      repeat (first|refine Yeg ?_|(refine X_id ?_;first|refine Yaf ?_|refine Yag ?_|refine Ya4 ?_|refine Ya3 ?_|refine Ybx ?_)|refine Yae ?_|refine Yad ?_|refine Yal ?_|refine Ya8 ?_|refine Yaj ?_|refine Ye6 ?_|(refine Zad ?_;first|refine Yay ?_|refine Ya0 ?_|refine Ybn ?_|refine Ybq ?_|refine Ybj ?_|refine Ybw ?_|refine Ybm ?_|refine Ydx ?_))
      exact Zbi () ⟨rfl,rfl,trivial⟩ ⟨by omega,hS.conv (by rw [hT,Nat.add_assoc])⟩
   ·have hm := hm (i + g + j) e
    simp only [decide_eq_false hlt] at hm
    have hT := hstop j hd (fun c hc => by rw [List.getElem?_eq_none (by omega)] at hc; cases hc) hj
    repeat (first|refine Yd0 ?_|(refine X_id ?_;first|(refine Zae 177 rfl rfl rfl rfl rfl hS (hm _ (hS.rd (List.mem_cons_self ..))) ?_;rintro _ _ rfl hS)|refine Yaf ?_|refine Yau ?_|refine Yan ?_)|refine Yec ?_|refine Yd6 ?_)
    exact Zbi () ⟨rfl,rfl,trivial⟩ ⟨by omega,hS.conv (by rw [hT,Nat.add_assoc])⟩
  ·clear hS
   rintro _ w ⟨hT,hS⟩
   repeat (first|refine Yae ?_)
   have hsb := hb.subBytes (l := i) (h := i + T.length) (c := c) (by omega) (by omega)
   rw [Zxs htk] at hsb
   refine Zao (.s 0 (.s 1 (.s 2 (.s 3 (.s 4 (.s 5 (.s 6 (.s 7 (.s 8 (.s 9 (.s 10 (.s 11 (.s 12 (.s 13 .nil)))))))))))))) mixed (by kernel_rfl) rfl ?_
   have hS := hS.drew
   repeat (first|(refine Zad ?_;first|refine Ya0 ?_|refine Ybq ?_|refine Ybj ?_|refine Ybm ?_))
   refine Zaj rfl rfl (fun _ => Zan (l := i) (h := i + T.length) rfl rfl rfl rfl (.inr ⟨_,_,rfl,by omega,by omega,by omega⟩) (.inr ⟨_,_,rfl,by omega,by omega,by omega⟩)) rfl rfl ?_
   refine Zax (fun w' => Rd w' (bytes (sub a i 1 c) T)) rfl rfl (hsb.rd hS) (fun _ h => Zb2 rfl rfl h (by omega)) rfl rfl ?_
   repeat (first|refine Yah ?_|refine Yab ?_|refine Yb6 ?_|refine Yam ?_|(refine Zad ?_;first|refine Yay ?_|refine Ybn ?_))
   exact ⟨rfl,hS⟩
end Cr
