/-
  The heap logic of this seat's proofs: fragments of a heap,resources,and the state 'St' of a function's run. No program is in sight.
  A statement whose order of evaluation Go leaves open,walked in ONE order of our choice: operations that touch no memory,or only read what the others leave alone,may be taken first.
  The walk of this seat's proofs: slots by number ('Env'),one judgement for each form of code,one lemma for each operation that touches no memory. Over any program.
-/
import Derived.Below
import Derived.WalkKit
import Derived.StillTail
import Derived.RangeFuncLeaves
import Derived.RangeFuncCalls
import Derived.TacticsIn
namespace Cr
set_option maxHeartbeats 64000000
theorem Yaa {p R : Prop} (r : R) (h : R → p := by exact fun zr => Ze9 rfl rfl zr) : p := h r
theorem Yab {p R : Prop} (r : R) (h : R → p := by exact fun zr => Zcq zr) : p := h r
theorem Yac {p R : Prop} (r : R) (h : R → p := by exact fun zr => Zp2 zr) : p := h r
theorem Yad {p R : Prop} (r : R) (h : R → p := by exact fun zr => Zax zr) : p := h r
theorem Yae {p R : Prop} (r : R) (h : R → p := by exact fun zr => Zc1 zr) : p := h r
theorem Yaf {p R : Prop} (r : R) (h : R → p := by exact fun zr => X_yl (Zcn rfl rfl) rfl rfl zr) : p := h r
theorem Yag {p R : Prop} (r : R) (h : R → p := by exact fun zr => X_yl (Zbu rfl rfl) rfl rfl zr) : p := h r
theorem Yah {p R : Prop} (r : R) (h : R → p := by exact fun zr => Zji zr) : p := h r
theorem Yai {p R : Prop} (r : R) (h : R → p := by exact fun zr => Zbk rfl zr) : p := h r
theorem Yaj {p R : Prop} (r : R) (h : R → p := by exact fun zr => Zb9 rfl zr) : p := h r
theorem Yak {p R : Prop} (r : R) (h : R → p := by exact fun zr => Zdg zr) : p := h r
theorem Yal {p R : Prop} (r : R) (h : R → p := by exact fun zr => Zfd zr) : p := h r
theorem Yam {p R : Prop} (r : R) (h : R → p := by exact fun zr => Zh6 rfl (Zbj rfl) (Ret.mk zr)) : p := h r
theorem Yan {p R : Prop} (r : R) (h : R → p := by exact fun zr => X_yl (Ze8 rfl rfl rfl) rfl rfl zr) : p := h r
theorem Yao {p R : Prop} (r : R) (h : R → p := by exact fun zr => Zya rfl rfl rfl rfl hS zr) : p := h r
theorem Yap {p R : Prop} (r : R) (h : R → p := by exact fun zr => Zdq zr) : p := h r
theorem Yaq {p R : Prop} (r : R) (h : R → p := by exact fun zr => X_yl (Zau rfl rfl hS.cell) rfl rfl zr) : p := h r
theorem Yar {p R : Prop} (r : R) (h : R → p := by exact fun zr => Z34 rfl rfl rfl hS zr) : p := h r
theorem Yas {p R : Prop} (r : R) (h : R → p := by exact fun zr => Zrl zr) : p := h r
theorem Yat {p R : Prop} (r : R) (h : R → p := by exact fun zr => X_yl (Zs9 rfl rfl) rfl rfl zr) : p := h r
theorem Yau {p R : Prop} (r : R) (h : R → p := by exact fun zr => X_yl (Zg0 rfl rfl) rfl rfl zr) : p := h r
theorem Yav {p R : Prop} (r : R) (h : R → p := by exact fun zr => Z0w rfl rfl rfl rfl zr) : p := h r
theorem Yaw {p R : Prop} (r : R) (h : R → p := by exact fun zr => X_yl (Zme rfl rfl rfl (w64 (by omega) (by omega))) rfl rfl zr) : p := h r
theorem Yax {p R : Prop} (r : R) (h : R → p := by exact fun zr => Z38 rfl rfl zr) : p := h r
theorem Yay {p R : Prop} (r : R) (h : R → p := by exact fun zr => And.intro (by repeat (first|exact trivial|refine And.intro (.inl (by decide +kernel)) ?_|refine And.intro (.inr (by first|assumption|exact hS.cell|exact Zdf (by assumption)|exact hS.cellI (by omega)|exact hS.cellIP (by omega)|exact hS.cellsN|exact ((hr.rd hS).cellX (by omega) hx)|exact ((hr2.rd hS).cellX (by omega) hx2)|exact hS.cellB (by omega)|exact hS.cellBA (by omega)|exact (hb.rd hS).cellB' (by omega)|exact (hb2.rd hS).cellB' (by omega)|exact (hg.rd hS).cellI (by omega)|exact (hg2.rd hS).cellI (by omega)|exact ((hr.rd hS).cellF (by first|omega|(dsimp only;omega)) hx)|exact ((hr2.rd hS).cellF (by first|omega|(dsimp only;omega)) hx2)|exact hS.cellO 0 (by omega)|exact hS.cellO 1 (by omega)|exact hS.cellIA (by omega)|exact (hg.rd hS).cellIA (by omega)|exact (hg2.rd hS).cellIA (by omega)|exact Zdf (hc.rd hS).pts|exact hb.rd hS|exact (hr.rd hS).cellsF7 (by first|omega|(dsimp only;omega)) hst4 rfl|exact (hr2.rd hS).cellsF7 (by first|omega|(dsimp only;omega)) hst4 rfl|exact hS.cellO 4 (by omega)|exact hS.cellO 5 (by omega)|exact hS.cellO 6 (by omega)|exact hS.cellO 7 (by omega)|exact hS.cellO 8 (by omega)|exact hS.cellO 9 (by omega)|exact hS.cellO 10 (by omega)|exact hS.cellO 11 (by omega)|exact hS.cellO 12 (by omega)|exact hS.cellO 13 (by omega)|exact hS.cellO 2 (by omega)|exact hS.cellO 3 (by omega))) ?_)) zr) : p := h r
theorem Yaz {p R : Prop} (r : R) (h : R → p := by exact fun zr => X_yl (Zjm rfl rfl rfl (by omega)) rfl rfl zr) : p := h r
theorem Ya0 {p R : Prop} (r : R) (h : R → p := by exact fun zr => X_yl (Zdp rfl rfl) rfl rfl zr) : p := h r
theorem Ya1 {p R : Prop} (r : R) (h : R → p := by exact fun zr => X_yl (Zs7 rfl rfl rfl (by omega)) rfl rfl zr) : p := h r
theorem Ya2 {p R : Prop} (r : R) (h : R → p := by exact fun zr => Z7p zr) : p := h r
theorem Ya3 {p R : Prop} (r : R) (h : R → p := by exact fun zr => Zyr zr) : p := h r
theorem Ya4 {p R : Prop} (r : R) (h : R → p := by exact fun zr => Zc0 zr) : p := h r
theorem Ya5 {p R : Prop} (r : R) (h : R → p := by exact fun zr => Zdr zr) : p := h r
theorem Ya6 {p R : Prop} (r : R) (h : R → p := by exact fun zr => Zai rfl rfl (fun _ => Zcn rfl rfl) rfl rfl zr) : p := h r
theorem Ya7 {p R : Prop} (r : R) (h : R → p := by exact fun zr => X_yl (Zh2 rfl rfl rfl) rfl rfl zr) : p := h r
theorem Ya8 {p R : Prop} (r : R) (h : R → p := by exact fun zr => Zla zr) : p := h r
theorem Ya9 {p R : Prop} (r : R) (h : R → p := by exact fun zr => X_yl (Zk6 rfl rfl rfl) rfl rfl zr) : p := h r
theorem Yba {p R : Prop} (r : R) (h : R → p := by exact fun zr => Z9b rfl rfl rfl rfl hS zr) : p := h r
theorem Ybb {p R : Prop} (r : R) (h : R → p := by exact fun zr => X_yl (Zjl rfl rfl) rfl rfl zr) : p := h r
theorem Ybc {p R : Prop} (r : R) (h : R → p := by exact fun zr => X_yl (Znt rfl rfl rfl (by omega)) rfl rfl zr) : p := h r
theorem Ybd {p R : Prop} (r : R) (h : R → p := by exact fun zr => X_yl (Zfu rfl rfl rfl (by omega) (by omega) (by first|assumption|exact ⟨_,_,rfl⟩)) rfl rfl zr) : p := h r
theorem Ybe {p R : Prop} (r : R) (h : R → p := by exact fun zr => Zp0 rfl rfl rfl rfl rfl rfl rfl rfl hS zr) : p := h r
theorem Ybf {p R : Prop} (r : R) (h : R → p := by exact fun zr => G_no rfl rfl rfl rfl rfl rfl zr) : p := h r
theorem Ybg {p R : Prop} (r : R) (h : R → p := by exact fun zr => X_yl (Ztc rfl rfl rfl (by omega)) rfl rfl zr) : p := h r
theorem Ybh {p R : Prop} (r : R) (h : R → p := by exact fun zr => X_yl (Zjp rfl rfl rfl (by omega)) rfl rfl zr) : p := h r
theorem Ybi {p R : Prop} (r : R) (h : R → p := by exact fun zr => X_yl (Zjn rfl rfl hS.cellsN) rfl rfl zr) : p := h r
theorem Ybj {p R : Prop} (r : R) (h : R → p := by exact fun zr => X_yl (Zns rfl rfl rfl (by omega)) rfl rfl zr) : p := h r
theorem Ybk {p R : Prop} (r : R) (h : R → p := by exact fun zr => Zai rfl rfl (fun _ => Ze8 rfl rfl rfl) rfl rfl zr) : p := h r
theorem Ybl {p R : Prop} (r : R) (h : R → p := by exact fun zr => Zai rfl rfl (fun _ => Zbu rfl rfl) rfl rfl zr) : p := h r
theorem Ybm {p R : Prop} (r : R) (h : R → p := by exact fun zr => X_yl (Zte rfl rfl rfl) rfl rfl zr) : p := h r
theorem Ybn {p R : Prop} (r : R) (h : R → p := by exact fun zr => Zbp (fun w' => w'.cell? _ = some _) rfl rfl hS.cell (fun _ hc => Zau rfl rfl hc) rfl rfl zr) : p := h r
theorem Ybo {p R : Prop} (r : R) (h : R → p := by exact fun zr => X_yl (Z0t rfl rfl) rfl rfl zr) : p := h r
theorem Ybp {p R : Prop} (r : R) (h : R → p := by exact fun zr => Zp5 rfl (Zbj rfl) (Zbj rfl) (Ret.mk zr)) : p := h r
theorem Ybq {p R : Prop} (r : R) (h : R → p := by exact fun zr => X_yl (Zjn rfl rfl ((hr.rd hS).cellsX (by omega) hxs rfl)) rfl rfl zr) : p := h r
theorem Ybr {p R : Prop} (r : R) (h : R → p := by exact fun zr => X_yl (Znv rfl rfl rfl (by omega)) rfl rfl zr) : p := h r
theorem Ybs {p R : Prop} (r : R) (h : R → p := by exact fun zr => Zai rfl rfl (fun _ => Zg0 rfl rfl) rfl rfl zr) : p := h r
theorem Ybt {p R : Prop} (r : R) (h : R → p := by exact fun zr => X_yl (Zgj rfl rfl rfl) rfl rfl zr) : p := h r
theorem Ybu {p R : Prop} (r : R) (h : R → p := by exact fun zr => Z7r rfl (Ret.mk zr)) : p := h r
theorem Ybv {p R : Prop} (r : R) (h : R → p := by exact fun zr => X_yl (Zs6 rfl rfl rfl (w64 (by omega) (by omega))) rfl rfl zr) : p := h r
theorem Ybw {p R : Prop} (r : R) (h : R → p := by exact fun zr => Zh6 rfl (by first|exact Zbj rfl|exact Zbg rfl (Zb4 hS.cell)|exact Zbg rfl (Zb3 hS.cellsN)) (Ret.mk zr)) : p := h r
theorem Ybx {p R : Prop} (r : R) (h : R → p := by exact fun zr => X_yl (Zta rfl rfl rfl (by omega)) rfl rfl zr) : p := h r
theorem Yby {p R : Prop} (r : R) (h : R → p := by exact fun zr => X_yl (Zfv rfl rfl rfl) rfl rfl zr) : p := h r
theorem Ybz {p R : Prop} (r : R) (h : R → p := by exact fun zr => Zp5 rfl (by first|exact Zbj rfl|exact Zbg rfl (Zb4 hS.cell)|exact Zbg rfl (Zb3 hS.cellsN)) (by first|exact Zbj rfl|exact Zbg rfl (Zb4 hS.cell)|exact Zbg rfl (Zb3 hS.cellsN)) (Ret.mk zr)) : p := h r
theorem Yb0 {p R : Prop} (r : R) (h : R → p := by exact fun zr => Zbp (fun w' => Zmh w' _ _ _) rfl rfl hS.cellsN (fun _ hc => Zjn rfl rfl hc) rfl rfl zr) : p := h r
theorem Yb1 {p R : Prop} (r : R) (h : R → p := by exact fun zr => X_yl (Zpq rfl rfl rfl (w64 (by omega) (by omega))) rfl rfl zr) : p := h r
theorem Yb2 {p R : Prop} (r : R) (h : R → p := by exact fun zr => X_yl (Zjo rfl rfl rfl (by omega)) rfl rfl zr) : p := h r
theorem Yb3 {p R : Prop} (r : R) (h : R → p := by exact fun zr => Zai rfl rfl (fun _ => Zfc rfl rfl rfl (by omega) (by omega)) rfl rfl zr) : p := h r
theorem Yb4 {p R : Prop} (r : R) (h : R → p := by exact fun zr => Zth (fun _ h => by cases h) zr) : p := h r
theorem Yb5 {p R : Prop} (r : R) (h : R → p := by exact fun zr => X_yl (Zau rfl rfl (Zdf (by assumption))) rfl rfl zr) : p := h r
theorem Yb6 {p R : Prop} (r : R) (h : R → p := by exact fun zr => X_yl (Znw rfl rfl rfl (by omega)) rfl rfl zr) : p := h r
theorem Yb7 {p R : Prop} (r : R) (h : R → p := by exact fun zr => X_yl (Zau rfl rfl ((hr.rd hS).cellX (by omega) hx)) rfl rfl zr) : p := h r
theorem Yb8 {p R : Prop} (r : R) (h : R → p := by exact fun zr => X_yl (Zxx rfl rfl rfl (by omega) (by omega)) rfl rfl zr) : p := h r
theorem Yb9 {p R : Prop} (r : R) (h : R → p := by exact fun zr => Zu3 rfl rfl rfl rfl hS zr) : p := h r
theorem Yca {p R : Prop} (r : R) (h : R → p := by exact fun zr => Zai rfl rfl (fun _ => Zfu rfl rfl rfl (by omega) (by omega) (by first|assumption|exact ⟨_,_,rfl⟩)) rfl rfl zr) : p := h r
theorem Ycb {p R : Prop} (r : R) (h : R → p := by exact fun zr => Zbp (fun w' => w'.cell? _ = some _) rfl rfl (hS.cellI (by omega)) (fun _ hc => Zau rfl rfl hc) rfl rfl zr) : p := h r
theorem Ycc {p R : Prop} (r : R) (h : R → p := by exact fun zr => X_yl (Zme rfl rfl rfl rfl) rfl rfl zr) : p := h r
theorem Ycd {p R : Prop} (r : R) (h : R → p := by exact fun zr => Zai rfl rfl (fun _ => Zte rfl rfl rfl) rfl rfl zr) : p := h r
theorem Yce {p R : Prop} (r : R) (h : R → p := by exact fun zr => Zai rfl rfl (fun _ => Zs6 rfl rfl rfl (w64 (by omega) (by omega))) rfl rfl zr) : p := h r
theorem Ycf {p R : Prop} (r : R) (h : R → p := by exact fun zr => Zai rfl rfl (fun _ => Zme rfl rfl rfl rfl) rfl rfl zr) : p := h r
theorem Ycg {p R : Prop} (r : R) (h : R → p := by exact fun zr => Z39 rfl zr) : p := h r
theorem Ych {p R : Prop} (r : R) (h : R → p := by exact fun zr => Zai rfl rfl (fun _ => Zh2 rfl rfl rfl) rfl rfl zr) : p := h r
theorem Yci {p R : Prop} (r : R) (h : R → p := by exact fun zr => Zco rfl rfl rfl rfl (fun _ => Zcn rfl rfl) rfl rfl zr) : p := h r
theorem Ycj {p R : Prop} (r : R) (h : R → p := by exact fun zr => X_yl (Zfc rfl rfl rfl (by omega) (by omega)) rfl rfl zr) : p := h r
theorem Yck {p R : Prop} (r : R) (h : R → p := by exact fun zr => Ztg rfl rfl rfl rfl hS (by omega) zr) : p := h r
theorem Ycl {p R : Prop} (r : R) (h : R → p := by exact fun zr => Zai rfl rfl (fun _ => Zme rfl rfl rfl (w64 (by omega) (by omega))) rfl rfl zr) : p := h r
theorem Ycm {p R : Prop} (r : R) (h : R → p := by exact fun zr => Z9h rfl rfl rfl rfl rfl rfl rfl zr) : p := h r
theorem Ycn {p R : Prop} (r : R) (h : R → p := by exact fun zr => Zai rfl rfl (fun _ => Zk6 rfl rfl rfl) rfl rfl zr) : p := h r
theorem Yco {p R : Prop} (r : R) (h : R → p := by exact fun zr => Z7q rfl (by first|exact Zbj rfl|exact Zbg rfl (Zb4 hS.cell)|exact Zbg rfl (Zb3 hS.cellsN)) (by first|exact Zbj rfl|exact Zbg rfl (Zb4 hS.cell)|exact Zbg rfl (Zb3 hS.cellsN)) (by first|exact Zbj rfl|exact Zbg rfl (Zb4 hS.cell)|exact Zbg rfl (Zb3 hS.cellsN)) (by first|exact Zbj rfl|exact Zbg rfl (Zb4 hS.cell)|exact Zbg rfl (Zb3 hS.cellsN)) (Ret.mk zr)) : p := h r
theorem Ycp {p R : Prop} (r : R) (h : R → p := by exact fun zr => X_yl (Z1r rfl rfl rfl (by omega)) rfl rfl zr) : p := h r
theorem Ycq {p R : Prop} (r : R) (h : R → p := by exact fun zr => X_yl (Zu1 rfl rfl rfl (by assumption)) rfl rfl zr) : p := h r
theorem Ycr {p R : Prop} (r : R) (h : R → p := by exact fun zr => X_yl (Zuz rfl rfl) rfl rfl zr) : p := h r
theorem Ycs {p R : Prop} (r : R) (h : R → p := by exact fun zr => X_yl (Zx5 rfl rfl) rfl rfl zr) : p := h r
theorem Yct {p R : Prop} (r : R) (h : R → p := by exact fun zr => X_yl (Zre rfl rfl rfl) rfl rfl zr) : p := h r
theorem Ycu {p R : Prop} (r : R) (h : R → p := by exact fun zr => X_yl (Zgk rfl rfl rfl) rfl rfl zr) : p := h r
theorem Ycv {p R : Prop} (r : R) (h : R → p := by exact fun zr => X_yl (Zau rfl rfl (Zdf (hc.rd hS).pts)) rfl rfl zr) : p := h r
theorem Ycw {p R : Prop} (r : R) (h : R → p := by exact fun zr => Zai rfl rfl (fun _ => Z7g rfl rfl rfl) rfl rfl zr) : p := h r
theorem Ycx {p R : Prop} (r : R) (h : R → p := by exact fun zr => X_yl (Zpv rfl rfl rfl) rfl rfl zr) : p := h r
theorem Ycy {p R : Prop} (r : R) (h : R → p := by exact fun zr => X_yl (Zu0 rfl rfl rfl (by assumption)) rfl rfl zr) : p := h r
theorem Ycz {p R : Prop} (r : R) (h : R → p := by exact fun zr => Zco rfl rfl rfl rfl (fun _ => Ze8 rfl rfl rfl) rfl rfl zr) : p := h r
theorem Yc0 {p R : Prop} (r : R) (h : R → p := by exact fun zr => X_yl (Zev rfl rfl rfl) rfl rfl zr) : p := h r
theorem Yc1 {p R : Prop} (r : R) (h : R → p := by exact fun zr => Zmg rfl rfl rfl rfl rfl zr) : p := h r
theorem Yc2 {p R : Prop} (r : R) (h : R → p := by exact fun zr => Zco rfl rfl rfl rfl (fun _ => Zg0 rfl rfl) rfl rfl zr) : p := h r
theorem Yc3 {p R : Prop} (r : R) (h : R → p := by exact fun zr => Zd6 (fun w' => w'.cell? _ = some _) rfl rfl rfl rfl hS.cell (fun _ hc => Zau rfl rfl hc) rfl rfl zr) : p := h r
theorem Yc4 {p R : Prop} (r : R) (h : R → p := by exact fun zr => X_yl (Zrf rfl rfl rfl (by omega) (by assumption)) rfl rfl zr) : p := h r
theorem Yc5 {p R : Prop} (r : R) (h : R → p := by exact fun zr => Zai rfl rfl (fun _ => Z1r rfl rfl rfl (by omega)) rfl rfl zr) : p := h r
theorem Yc6 {p R : Prop} (r : R) (h : R → p := by exact fun zr => X_yl (Z31 rfl rfl rfl (by omega) (by omega) (by omega)) rfl rfl zr) : p := h r
theorem Yc7 {p R : Prop} (r : R) (h : R → p := by exact fun zr => Zai rfl rfl (fun _ => Zi9 rfl rfl) rfl rfl zr) : p := h r
theorem Yc8 {p R : Prop} (r : R) (h : R → p := by exact fun zr => X_yl (Zxy rfl rfl rfl (by omega) rfl) rfl rfl zr) : p := h r
theorem Yc9 {p R : Prop} (r : R) (h : R → p := by exact fun zr => List.mem_cons_of_mem _ zr) : p := h r
theorem Yda {p R : Prop} (r : R) (h : R → p := by exact fun zr => X_yl (Zx0 rfl rfl rfl) rfl rfl zr) : p := h r
theorem Ydb {p R : Prop} (r : R) (h : R → p := by exact fun zr => And.intro (by repeat (first|exact trivial|refine And.intro (.inl (by decide +kernel)) ?_|refine And.intro (.inr (by first|assumption|exact hS.cell|exact Zdf (by assumption)|exact hS.cellI (by omega)|exact hS.cellIP (by omega)|exact hS.cellsN|exact ((hr.rd hS).cellX (by omega) hx)|exact ((hr2.rd hS).cellX (by omega) hx2)|exact hS.cellB (by omega)|exact hS.cellBA (by omega)|exact (hb.rd hS).cellB' (by omega)|exact (hb2.rd hS).cellB' (by omega)|exact (hg.rd hS).cellI (by omega)|exact (hg2.rd hS).cellI (by omega)|exact ((hr.rd hS).cellF (by first|omega|(dsimp only;omega)) hx)|exact ((hr2.rd hS).cellF (by first|omega|(dsimp only;omega)) hx2)|exact hS.cellO 0 (by omega)|exact hS.cellO 1 (by omega)|exact hS.cellIA (by omega)|exact (hg.rd hS).cellIA (by omega)|exact (hg2.rd hS).cellIA (by omega)|exact Zdf (hc.rd hS).pts|exact hb.rd hS|exact (hr.rd hS).cellsF7 (by first|omega|(dsimp only;omega)) hst4 rfl|exact (hr2.rd hS).cellsF7 (by first|omega|(dsimp only;omega)) hst4 rfl|exact hS.cellO 4 (by omega)|exact hS.cellO 5 (by omega)|exact hS.cellO 6 (by omega)|exact hS.cellO 7 (by omega)|exact hS.cellO 8 (by omega)|exact hS.cellO 9 (by omega)|exact hS.cellO 10 (by omega)|exact hS.cellO 11 (by omega)|exact hS.cellO 12 (by omega)|exact hS.cellO 13 (by omega)|exact hS.cellO 2 (by omega)|exact hS.cellO 3 (by omega)|exact (hS.rd (by simp)).mapq_r)) ?_)) zr) : p := h r
theorem Ydc {p R : Prop} (r : R) (h : R → p := by exact fun zr => X_yl (Z0u rfl rfl rfl (by omega)) rfl rfl zr) : p := h r
theorem Ydd {p R : Prop} (r : R) (h : R → p := by exact fun zr => Zu4 rfl rfl rfl rfl rfl rfl rfl zr) : p := h r
theorem Yde {p R : Prop} (r : R) (h : R → p := by exact fun zr => Zai rfl rfl (fun _ => Zxw rfl rfl rfl (by omega)) rfl rfl zr) : p := h r
theorem Ydf {p R : Prop} (r : R) (h : R → p := by exact fun zr => Zx7 rfl rfl rfl rfl hS rfl (by omega) zr) : p := h r
theorem Ydg {p R : Prop} (r : R) (h : R → p := by exact fun zr => Zai rfl rfl (fun _ => Zxx rfl rfl rfl (by omega) (by omega)) rfl rfl zr) : p := h r
theorem Ydh {p R : Prop} (r : R) (h : R → p := by exact fun zr => X_yl (Zx6 rfl rfl rfl (by first|omega|(simp;omega))) rfl rfl zr) : p := h r
theorem Ydi {p R : Prop} (r : R) (h : R → p := by exact fun zr => X_yl (Z7i rfl rfl) rfl rfl zr) : p := h r
theorem Ydj {p R : Prop} (r : R) (h : R → p := by exact fun zr => Z1v rfl (Zbj rfl) (Zbj rfl) (Zbj rfl) (Ret.mk zr)) : p := h r
theorem Ydk {p R : Prop} (r : R) (h : R → p := by exact fun zr => Zbp (fun w' => w'.cell? _ = some _) rfl rfl ((hr.rd hS).cellX (by omega) hx) (fun _ hc => Zau rfl rfl hc) rfl rfl zr) : p := h r
theorem Ydl {p R : Prop} (r : R) (h : R → p := by exact fun zr => Zai rfl rfl (fun _ => Zfv rfl rfl rfl) rfl rfl zr) : p := h r
theorem Ydm {p R : Prop} (r : R) (h : R → p := by exact fun zr => X_yl (Zi9 rfl rfl) rfl rfl zr) : p := h r
theorem Ydn {p R : Prop} (r : R) (h : R → p := by exact fun zr => Zai rfl rfl (fun _ => Zgk rfl rfl rfl) rfl rfl zr) : p := h r
theorem Ydo {p R : Prop} (r : R) (h : R → p := by exact fun zr => Zbp (fun w' => w'.cell? _ = some _) rfl rfl ((hb.rd hS).cellB' (by omega)) (fun _ hc => Zau rfl rfl hc) rfl rfl zr) : p := h r
theorem Ydp {p R : Prop} (r : R) (h : R → p := by exact fun zr => Zai rfl rfl (fun _ => Z32 rfl rfl rfl) rfl rfl zr) : p := h r
theorem Ydq {p R : Prop} (r : R) (h : R → p := by exact fun zr => X_yl (Zau rfl rfl ((hg.rd hS).cellI (by omega))) rfl rfl zr) : p := h r
theorem Ydr {p R : Prop} (r : R) (h : R → p := by exact fun zr => Zny rfl rfl rfl (by omega) (by omega) rfl rfl hS zr) : p := h r
theorem Yds {p R : Prop} (r : R) (h : R → p := by exact fun zr => X_yl (Zlf rfl rfl rfl) rfl rfl zr) : p := h r
theorem Ydt {p R : Prop} (r : R) (h : R → p := by exact fun zr => X_yl (Zs8 rfl rfl rfl (by omega)) rfl rfl zr) : p := h r
theorem Ydu {p R : Prop} (r : R) (h : R → p := by exact fun zr => Zai rfl rfl (fun _ => Ztc rfl rfl rfl (by omega)) rfl rfl zr) : p := h r
theorem Ydv {p R : Prop} (r : R) (h : R → p := by exact fun zr => Zai rfl rfl (fun _ => Zs9 rfl rfl) rfl rfl zr) : p := h r
theorem Ydw {p R : Prop} (r : R) (h : R → p := by exact fun zr => Zbp (fun w' => w'.cell? _ = some _) rfl rfl (Zdf (hc.rd hS).pts) (fun _ hc => Zau rfl rfl hc) rfl rfl zr) : p := h r
theorem Ydx {p R : Prop} (r : R) (h : R → p := by exact fun zr => Zbp (fun w' => w'.cell? _ = some _) rfl rfl (Zdf (by assumption)) (fun _ hc => Zau rfl rfl hc) rfl rfl zr) : p := h r
theorem Ydy {p R : Prop} (r : R) (h : R → p := by exact fun zr => Zyt rfl (by first|assumption|omega) zr) : p := h r
theorem Ydz {p R : Prop} (r : R) (h : R → p := by exact fun zr => Zco rfl rfl rfl rfl (fun _ => Zs9 rfl rfl) rfl rfl zr) : p := h r
theorem Yd0 {p R : Prop} (r : R) (h : R → p := by exact fun zr => X_yl (Zrc rfl rfl rfl rfl (.inr ⟨_,_,rfl,by omega,rfl,by omega⟩) (.inl ⟨rfl,rfl⟩)) rfl rfl zr) : p := h r
theorem Yd1 {p R : Prop} (r : R) (h : R → p := by exact fun zr => Zd6 (fun w' => w'.cell? _ = some _) rfl rfl rfl rfl (Zdf (hc.rd hS).pts) (fun _ hc => Zau rfl rfl hc) rfl rfl zr) : p := h r
theorem Yd2 {p R : Prop} (r : R) (h : R → p := by exact fun zr => Zai rfl rfl (fun _ => Zxy rfl rfl rfl (by omega) rfl) rfl rfl zr) : p := h r
theorem Yd3 {p R : Prop} (r : R) (h : R → p := by exact fun zr => X_yl (Zau rfl rfl (hS.cellO 0 (by omega))) rfl rfl zr) : p := h r
theorem Yd4 {p R : Prop} (r : R) (h : R → p := by exact fun zr => X_yl (Zau rfl rfl (hS.cellO 1 (by omega))) rfl rfl zr) : p := h r
theorem Yd5 {p R : Prop} (r : R) (h : R → p := by exact fun zr => Zbp (fun w' => w'.cell? _ = some _) rfl rfl ((hg.rd hS).cellI (by omega)) (fun _ hc => Zau rfl rfl hc) rfl rfl zr) : p := h r
theorem Yd6 {p R : Prop} (r : R) (h : R → p := by exact fun zr => Z1v rfl (by first|exact Zbj rfl|exact Zbg rfl (Zb4 hS.cell)|exact Zbg rfl (Zb3 hS.cellsN)) (by first|exact Zbj rfl|exact Zbg rfl (Zb4 hS.cell)|exact Zbg rfl (Zb3 hS.cellsN)) (by first|exact Zbj rfl|exact Zbg rfl (Zb4 hS.cell)|exact Zbg rfl (Zb3 hS.cellsN)) (Ret.mk zr)) : p := h r
theorem Yd7 {p R : Prop} (r : R) (h : R → p := by exact fun zr => Zco rfl rfl rfl rfl (fun _ => Zs6 rfl rfl rfl (w64 (by omega) (by omega))) rfl rfl zr) : p := h r
theorem Yd8 {p R : Prop} (r : R) (h : R → p := by exact fun zr => Zai rfl rfl (fun _ => Zpq rfl rfl rfl (w64 (by omega) (by omega))) rfl rfl zr) : p := h r
theorem Yd9 {p R : Prop} (r : R) (h : R → p := by exact fun zr => Zbp (fun w' => w'.cell? _ = some _) rfl rfl ((hr2.rd hS).cellX (by omega) hx2) (fun _ hc => Zau rfl rfl hc) rfl rfl zr) : p := h r
theorem Yea {p R : Prop} (r : R) (h : R → p := by exact fun zr => Zbp (fun w' => w'.cell? _ = some _) rfl rfl (hS.cellO 0 (by omega)) (fun _ hc => Zau rfl rfl hc) rfl rfl zr) : p := h r
theorem Yeb {p R : Prop} (r : R) (h : R → p := by first|exact fun zr => Zp2 zr|exact fun zr => Ze9 rfl rfl zr) : p := h r
theorem Yec {p R : Prop} (r : R) (h : R → p := by first|exact fun zr => Zc1 zr|exact fun zr => Zax zr) : p := h r
theorem Yed {p R : Prop} (r : R) (h : R → p := by first|exact fun zr => Zcq zr|exact fun zr => Zh6 rfl (Zbj rfl) (Ret.mk zr)) : p := h r
theorem Yee {p R : Prop} (r : R) (h : R → p := by first|exact fun zr => Zc1 zr|exact fun zr => Zax zr|exact fun zr => Zdg zr) : p := h r
theorem Yef {p R : Prop} (r : R) (h : R → p := by first|exact fun zr => Zc1 zr|exact fun zr => Zax zr|exact fun zr => Zdg zr|exact fun zr => Zfd zr|exact fun zr => Zb9 rfl zr) : p := h r
theorem Yeg {p R : Prop} (r : R) (h : R → p := by first|exact fun zr => X_yl (Zcn rfl rfl) rfl rfl zr|exact fun zr => X_yl (Zme rfl rfl rfl (w64 (by omega) (by omega))) rfl rfl zr) : p := h r
theorem Yeh {p R : Prop} (r : R) (h : R → p := by first|exact fun zr => Zcq zr|exact fun zr => Zc0 zr|exact fun zr => Zdr zr) : p := h r
theorem Yei {p R : Prop} (r : R) (h : R → p := by first|exact fun zr => Zc1 zr|exact fun zr => Zax zr|exact fun zr => Zdg zr|exact fun zr => Zfd zr|exact fun zr => Zb9 rfl zr|exact fun zr => Zbk rfl zr) : p := h r
theorem Yej {p R : Prop} (r : R) (h : R → p := by first|exact fun zr => Zcq zr|exact fun zr => Zrl zr) : p := h r
theorem Yek {p R : Prop} (r : R) (h : R → p := by first|exact fun zr => Zc1 zr|exact fun zr => Zax zr|exact fun zr => Zji zr|exact fun zr => Zyr zr|exact fun zr => Zbk rfl zr) : p := h r
theorem Yel {p R : Prop} (r : R) (h : R → p := by first|exact fun zr => Zcq zr|exact fun zr => Zc0 zr|exact fun zr => Zdr zr|exact fun zr => Zh6 rfl (by first|exact Zbj rfl|exact Zbg rfl (Zb4 hS.cell)|exact Zbg rfl (Zb3 hS.cellsN)) (Ret.mk zr)) : p := h r
theorem Yem {p R : Prop} (r : R) (h : R → p := by first|exact fun zr => Zc1 zr|exact fun zr => Zax zr|exact fun zr => Zb9 rfl zr) : p := h r
theorem Yen {p R : Prop} (r : R) (h : R → p := by first|exact fun zr => Zc1 zr|exact fun zr => Zax zr|exact fun zr => Zfd zr|exact fun zr => Zbk rfl zr) : p := h r
theorem Yeo {p R : Prop} (r : R) (h : R → p := by first|exact fun zr => Zc1 zr|exact fun zr => Zax zr|exact fun zr => Zyr zr|exact fun zr => Zbk rfl zr) : p := h r
theorem Yep {p R : Prop} (r : R) (h : R → p := by first|exact fun zr => Zc1 zr|exact fun zr => Zax zr|exact fun zr => Zji zr) : p := h r
theorem Yeq {p R : Prop} (r : R) (h : R → p := by first|exact fun zr => X_yl (Zcn rfl rfl) rfl rfl zr|exact fun zr => X_yl (Zbu rfl rfl) rfl rfl zr) : p := h r
theorem Yer {p R : Prop} (r : R) (h : R → p := by first|exact fun zr => X_yl (Zcn rfl rfl) rfl rfl zr|exact fun zr => X_yl (Zbu rfl rfl) rfl rfl zr|exact fun zr => X_yl (Zme rfl rfl rfl (w64 (by omega) (by omega))) rfl rfl zr) : p := h r
theorem Yes {p R : Prop} (r : R) (h : R → p := by first|exact fun zr => Zp2 zr|exact fun zr => Ze9 rfl rfl zr|exact fun zr => Z0w rfl rfl rfl rfl zr) : p := h r
theorem Yet {p R : Prop} (r : R) (h : R → p := by first|exact fun zr => Zc1 zr|exact fun zr => Zax zr|exact fun zr => Zji zr|exact fun zr => Zb9 rfl zr) : p := h r
theorem Yeu {p R : Prop} (r : R) (h : R → p := by first|exact fun zr => Zcq zr|exact fun zr => Zdq zr|exact fun zr => Zh6 rfl (Zbj rfl) (Ret.mk zr)) : p := h r
theorem Yev {p R : Prop} (r : R) (h : R → p := by first|exact fun zr => Zp2 zr|exact fun zr => Ze9 rfl rfl zr|exact fun zr => G_no rfl rfl rfl rfl rfl rfl zr) : p := h r
theorem Yew {p R : Prop} (r : R) (h : R → p := by first|exact fun zr => Zc1 zr|exact fun zr => Zax zr|exact fun zr => Zdg zr|exact fun zr => Zji zr|exact fun zr => Zb9 rfl zr|exact fun zr => Zbk rfl zr) : p := h r
theorem Yex {p R : Prop} (r : R) (h : R → p := by first|exact fun zr => Zcq zr|exact fun zr => Zdq zr|exact fun zr => Zla zr|exact fun zr => Zh6 rfl (Zbj rfl) (Ret.mk zr)) : p := h r
theorem Yey {p R : Prop} (r : R) (h : R → p := by first|exact fun zr => Zc1 zr|exact fun zr => Zax zr|exact fun zr => Zdg zr|exact fun zr => Zbk rfl zr) : p := h r
theorem Yez {p R : Prop} (r : R) (h : R → p := by first|exact fun zr => Zc1 zr|exact fun zr => Zax zr|exact fun zr => Zdg zr|exact fun zr => Zji zr|exact fun zr => Zb9 rfl zr) : p := h r
theorem Ye0 {p R : Prop} (r : R) (h : R → p := by first|exact fun zr => Zcq zr|exact fun zr => Zp5 rfl (Zbj rfl) (Zbj rfl) (Ret.mk zr)) : p := h r
theorem Ye1 {p R : Prop} (r : R) (h : R → p := by first|exact fun zr => Zc1 zr|exact fun zr => Zax zr|exact fun zr => Zji zr|exact fun zr => Zfd zr|exact fun zr => Zbk rfl zr) : p := h r
theorem Ye2 {p R : Prop} (r : R) (h : R → p := by first|exact fun zr => Zc1 zr|exact fun zr => Zax zr|exact fun zr => Zdg zr|exact fun zr => Zji zr|exact fun zr => Zfd zr|exact fun zr => Zbk rfl zr) : p := h r
theorem Ye3 {p R : Prop} (r : R) (h : R → p := by first|exact fun zr => Zax zr|exact fun zr => Zfd zr|exact fun zr => Zbk rfl zr) : p := h r
theorem Ye4 {p R : Prop} (r : R) (h : R → p := by first|exact fun zr => X_yl (Zcn rfl rfl) rfl rfl zr|exact fun zr => X_yl (Zbu rfl rfl) rfl rfl zr|exact fun zr => X_yl (Zs9 rfl rfl) rfl rfl zr) : p := h r
theorem Ye5 {p R : Prop} (r : R) (h : R → p := by first|exact fun zr => X_yl (Zcn rfl rfl) rfl rfl zr|exact fun zr => X_yl (Zbu rfl rfl) rfl rfl zr|exact fun zr => X_yl (Zdp rfl rfl) rfl rfl zr) : p := h r
theorem Ye6 {p R : Prop} (r : R) (h : R → p := by first|exact fun zr => Zcq zr|exact fun zr => Zdq zr|exact fun zr => Zla zr|exact fun zr => Zp5 rfl (Zbj rfl) (Zbj rfl) (Ret.mk zr)) : p := h r
theorem Ye7 {p R : Prop} (r : R) (h : R → p := by first|exact fun zr => Zcq zr|exact fun zr => Zdq zr|exact fun zr => Zp5 rfl (Zbj rfl) (Zbj rfl) (Ret.mk zr)) : p := h r
theorem Ye8 {p R : Prop} (r : R) (h : R → p := by first|exact fun zr => X_yl (Zcn rfl rfl) rfl rfl zr|exact fun zr => X_yl (Zbu rfl rfl) rfl rfl zr|exact fun zr => X_yl (Zdp rfl rfl) rfl rfl zr|exact fun zr => X_yl (Zns rfl rfl rfl (by omega)) rfl rfl zr) : p := h r
theorem Ye9 {p R : Prop} (r : R) (h : R → p := by first|exact fun zr => X_yl (Zcn rfl rfl) rfl rfl zr|exact fun zr => X_yl (Zbu rfl rfl) rfl rfl zr|exact fun zr => X_yl (Zdp rfl rfl) rfl rfl zr|exact fun zr => X_yl (Znt rfl rfl rfl (by omega)) rfl rfl zr) : p := h r
theorem Yfa {p R : Prop} (r : R) (h : R → p := by first|exact fun zr => Zc1 zr|exact fun zr => Zax zr|exact fun zr => Zdg zr|exact fun zr => Zfd zr|exact fun zr => Zbk rfl zr) : p := h r
theorem Yfb {p R : Prop} (r : R) (h : R → p := by first|exact fun zr => Zp2 zr|exact fun zr => Ze9 rfl rfl zr|exact fun zr => Z0w rfl rfl rfl rfl zr|exact fun zr => G_no rfl rfl rfl rfl rfl rfl zr) : p := h r
theorem Yfc {p R : Prop} (r : R) (h : R → p := by first|exact fun zr => Zc1 zr|exact fun zr => Zax zr|exact fun zr => Zji zr|exact fun zr => Zfd zr|exact fun zr => Zb9 rfl zr|exact fun zr => Zbk rfl zr) : p := h r
theorem Yfd {p R : Prop} (r : R) (h : R → p := by first|exact fun zr => Zcq zr|exact fun zr => Zc0 zr|exact fun zr => Zdr zr|exact fun zr => Zh6 rfl (Zbj rfl) (Ret.mk zr)) : p := h r
theorem Yfe {p R : Prop} (r : R) (h : R → p := by first|exact fun zr => X_yl (Zcn rfl rfl) rfl rfl zr|exact fun zr => X_yl (Zbu rfl rfl) rfl rfl zr|exact fun zr => X_yl (Zgj rfl rfl rfl) rfl rfl zr) : p := h r
theorem Yff {p R : Prop} (r : R) (h : R → p := by first|exact fun zr => Zc1 zr|exact fun zr => Zax zr|exact fun zr => Zji zr|exact fun zr => Zb9 rfl zr|exact fun zr => Zbk rfl zr) : p := h r
theorem Yfg {p R : Prop} (r : R) (h : R → p := by first|exact fun zr => Zc1 zr|exact fun zr => Zax zr|exact fun zr => Zdg zr|exact fun zr => Zji zr|exact fun zr => Zfd zr|exact fun zr => Zb9 rfl zr|exact fun zr => Zbk rfl zr) : p := h r
theorem Yfh {p R : Prop} (r : R) (h : R → p := by first|exact fun zr => Zc1 zr|exact fun zr => Zax zr|exact fun zr => Zdg zr|exact fun zr => Zb9 rfl zr) : p := h r
theorem Yfi {p R : Prop} (r : R) (h : R → p := by first|exact fun zr => Zc1 zr|exact fun zr => Zax zr|exact fun zr => Zfd zr|exact fun zr => Zb9 rfl zr|exact fun zr => Zbk rfl zr) : p := h r
theorem Yfj {p R : Prop} (r : R) (h : R → p := by first|exact fun zr => X_yl (Zcn rfl rfl) rfl rfl zr|exact fun zr => X_yl (Zbu rfl rfl) rfl rfl zr|exact fun zr => X_yl (Zjm rfl rfl rfl (by omega)) rfl rfl zr) : p := h r
theorem Yfk {p R : Prop} (r : R) (h : R → p := by first|exact fun zr => Zcq zr|exact fun zr => Zc0 zr|exact fun zr => Zdr zr|exact fun zr => Zrl zr) : p := h r
theorem Yfl {p R : Prop} (r : R) (h : R → p := by first|exact fun zr => Zcq zr|exact fun zr => Zdq zr|exact fun zr => Zth (fun _ h => by cases h) zr|exact fun zr => Zh6 rfl (Zbj rfl) (Ret.mk zr)) : p := h r
theorem Yfm {p R : Prop} (r : R) (h : R → p := by first|exact fun zr => Zcq zr|exact fun zr => Zc0 zr|exact fun zr => Zdr zr|exact fun zr => Z0x rfl zr) : p := h r
theorem Yfn {p R : Prop} (r : R) (h : R → p := by first|exact fun zr => Zc1 zr|exact fun zr => Zax zr|exact fun zr => Zdg zr|exact fun zr => Zb9 rfl zr|exact fun zr => Zbk rfl zr) : p := h r
open Go

abbrev Frag := Nat → Option Obj
abbrev Res := Frag → Prop

def Zcl (b : Nat) (o : Obj) : Frag := fun k => if k = b then some o else none
def pts (b : Nat) (o : Obj) : Res := fun h => h = Zcl b o
def emp : Res := fun h => ∀ k,h k = none

def Sep : List Res → Res
 | [] => emp
 | r :: rs => fun h => ∃ h1 h2,r h1 ∧ Sep rs h2 ∧ (∀ k,h1 k = none ∨ h2 k = none) ∧ (∀ k,h k = (h1 k).or (h2 k))

theorem Sep.swap {r s : Res} {rs : List Res} {h : Frag} (H : Sep (r :: s :: rs) h) : Sep (s :: r :: rs) h := by
 obtain ⟨h1,h2,hr,⟨h3,h4,hs,hrs,hd',hu'⟩,hd,hu⟩ := H
 refine ⟨h3,fun k => (h1 k).or (h4 k),hs,⟨h1,h4,hr,hrs,fun k => ?_,fun k => rfl⟩,fun k => ?_,fun k => ?_⟩
 ·rcases hd k with h | h
  ·exact .inl h
  ·rw [hu'] at h; simp at h; exact .inr h.2
 ·rcases hd k with h | h <;> rcases hd' k with h' | h' <;> simp_all
 ·rw [hu,hu']
  rcases hd k with h | h
  ·simp [h]
  ·rw [hu'] at h; simp at h; simp [h.1,h.2]

theorem Sep.mono_head {r r' : Res} {rs : List Res} {h : Frag} (hr : ∀ h,r h → r' h) (H : Sep (r :: rs) h) : Sep (r' :: rs) h := by
 obtain ⟨h1,h2,a,b,c,d⟩ := H
 exact ⟨h1,h2,hr _ a,b,c,d⟩
theorem Sep.mono_tail {r : Res} {rs rs' : List Res} {h : Frag} (hr : ∀ h,Sep rs h → Sep rs' h) (H : Sep (r :: rs) h) : Sep (r :: rs') h := by
 obtain ⟨h1,h2,a,b,c,d⟩ := H
 exact ⟨h1,h2,a,hr _ b,c,d⟩

theorem Sep.perm {rs rs' : List Res} (p : rs.Perm rs') : ∀ h,Sep rs h → Sep rs' h := by
 induction p with
 | nil => exact fun _ h => h
 | cons x _ ih => exact fun _ h => Sep.mono_tail ih h
 | swap x y l => exact fun _ h => Sep.swap h
 | trans _ _ ih1 ih2 => exact fun _ h => ih2 _ (ih1 _ h)

theorem Sep.append {rs rs' : List Res} {h : Frag} (H : Sep (rs ++ rs') h) :
  ∃ h1 h2,Sep rs h1 ∧ Sep rs' h2 ∧ (∀ k,h1 k = none ∨ h2 k = none) ∧ (∀ k,h k = (h1 k).or (h2 k)) := by
 induction rs generalizing h with
 | nil => exact ⟨fun _ => none,h,fun _ => rfl,H,fun _ => .inl rfl,fun _ => by simp⟩
 | cons r rs ih =>
  obtain ⟨h1,h2,hr,hs,hd,hu⟩ := H
  obtain ⟨h3,h4,ha,hb,hd',hu'⟩ := ih hs
  refine ⟨fun k => (h1 k).or (h3 k),h4,⟨h1,h3,hr,ha,fun k => ?_,fun k => rfl⟩,hb,fun k => ?_,fun k => ?_⟩
  ·rcases hd k with h | h
   ·exact .inl h
   ·rw [hu'] at h; simp at h; exact .inr h.1
  ·rcases hd' k with h' | h'
   ·rcases hd k with h | h
    ·left; simp [h,h']
    ·rw [hu'] at h; simp at h; exact .inr h.2
   ·exact .inr h'
  ·rw [hu,hu']; cases e1 : h1 k <;> simp [e1]

theorem Sep.append_mk {rs rs' : List Res} {h h1 h2 : Frag} (H1 : Sep rs h1) (H2 : Sep rs' h2) (hd : ∀ k,h1 k = none ∨ h2 k = none) (hu : ∀ k,h k = (h1 k).or (h2 k)) : Sep (rs ++ rs') h := by
 induction rs generalizing h h1 with
 | nil =>
  have : h = h2 := by funext k; rw [hu,H1 k]; simp
  exact this ▸ H2
 | cons r rs ih =>
  obtain ⟨h3,h4,hr,hs,hd',hu'⟩ := H1
  refine ⟨h3,fun k => (h4 k).or (h2 k),hr,ih hs (fun k => ?_) (fun k => rfl),fun k => ?_,fun k => ?_⟩
  ·rcases hd k with h | h
   ·rw [hu'] at h; simp at h; exact .inl h.2
   ·exact .inr h
  ·rcases hd' k with h' | h'
   ·exact .inl h'
   ·rcases hd k with h | h
    ·rw [hu'] at h; simp at h; exact .inl h.1
    ·right; simp [h,h']
  ·rw [hu,hu']; cases h3 k <;> simp

def Z1x (h : Frag) (w : World) : Prop := ∀ b o,h b = some o → w.heap[b]? = some o

structure StAt (W : World) (F : Nat → Prop) (h : Frag) (w : World) : Prop where
 agrees : Z1x h w
 foot : ∀ b o,h b = some o → F b ∨ W.heap.size ≤ b
 size : W.heap.size ≤ w.heap.size
 os : w.os = W.os
 tape : w.tape = W.tape
 output : w.output = W.output
 kept : ∀ b,b < W.heap.size → ¬ F b → w.heap[b]? = W.heap[b]?
def St (W : World) (F : Nat → Prop) (rs : List Res) (w : World) : Prop := ∃ h,Sep rs h ∧ StAt W F h w

def noF : Nat → Prop := fun _ => False
def Ro (W : World) (F : Nat → Prop) (r : Res) : Prop := ∃ h,r h ∧ ∀ b o,h b = some o → W.heap[b]? = some o ∧ ¬ F b
def Rd (w : World) (r : Res) : Prop := ∃ h,r h ∧ Z1x h w

theorem Zb6 {w : World} {b : Nat} {o : Obj} (h : w.heap[b]? = some o) : b < w.heap.size := (Array.getElem?_eq_some_iff.1 h).1

theorem Ro.rd {W : World} {F : Nat → Prop} {r : Res} {rs : List Res} {w : World} (H : Ro W F r) (hS : St W F rs w) : Rd w r := by
 obtain ⟨h,hr,ha⟩ := H
 obtain ⟨_,_,s⟩ := hS
 exact ⟨h,hr,fun b o hb => by
  have := ha b o hb
  rw [s.kept b (Zb6 this.1) this.2]; exact this.1⟩
theorem Rd.below {w w' : World} {r : Res} (H : Rd w r) (hb : RowKit.Below w.heap.size w w') : Rd w' r := by
 obtain ⟨h,hr,ha⟩ := H
 exact ⟨h,hr,fun b o e => by have := ha b o e; rw [hb.block b (Zb6 this)]; exact this⟩
theorem Rd.ro {w : World} {r : Res} (H : Rd w r) : Ro w noF r := by
 obtain ⟨h,hr,ha⟩ := H
 exact ⟨h,hr,fun b o hb => ⟨ha b o hb,fun h => h⟩⟩
theorem Ro.start {W : World} {F : Nat → Prop} {r : Res} (H : Ro W F r) : Rd W r := by
 obtain ⟨h,hr,ha⟩ := H
 exact ⟨h,hr,fun b o hb => (ha b o hb).1⟩
theorem Ro.mono {W : World} {F : Nat → Prop} {r r' : Res} (H : Ro W F r) (hm : ∀ h,r h → ∃ h',r' h' ∧ ∀ b o,h' b = some o → h b = some o) : Ro W F r' := by
 obtain ⟨h,hr,ha⟩ := H
 obtain ⟨h',hr',hs⟩ := hm h hr
 exact ⟨h',hr',fun b o hb => ha b o (hs b o hb)⟩
theorem Rd.mono {w : World} {r r' : Res} (H : Rd w r) (hm : ∀ h,r h → ∃ h',r' h' ∧ ∀ b o,h' b = some o → h b = some o) : Rd w r' := by
 obtain ⟨h,hr,ha⟩ := H
 obtain ⟨h',hr',hs⟩ := hm h hr
 exact ⟨h',hr',fun b o hb => ha b o (hs b o hb)⟩

theorem St.start (w : World) : St w noF [] w :=
 ⟨fun _ => none,fun _ => rfl,fun _ _ h => by simp at h,fun _ _ h => by simp at h,Nat.le_refl _,rfl,rfl,rfl,fun _ _ _ => rfl⟩

theorem St.perm {W : World} {F : Nat → Prop} {rs rs' : List Res} {w : World} (hS : St W F rs w) (p : rs.Perm rs') : St W F rs' w := by
 obtain ⟨h,hs,s⟩ := hS
 exact ⟨h,Sep.perm p h hs,s⟩
theorem St.imp {W : World} {F : Nat → Prop} {rs rs' : List Res} {w : World} (hS : St W F rs w) (p : ∀ h,Sep rs h → Sep rs' h) : St W F rs' w := by
 obtain ⟨h,hs,s⟩ := hS
 exact ⟨h,p h hs,s⟩

theorem Zan (b : Nat) (o : Obj) : Zcl b o b = some o := by simp [Zcl]
theorem Zfi {b k : Nat} (o : Obj) (h : k ≠ b) : Zcl b o k = none := by simp [Zcl,h]
theorem Zhf {b k : Nat} {o o' : Obj} (h : Zcl b o k = some o') : k = b ∧ o = o' := by
 unfold Zcl at h; split at h
 ·rename_i e; exact ⟨e,by simpa using h⟩
 ·simp at h

theorem St.drop {W : World} {F : Nat → Prop} {r : Res} {rs : List Res} {w : World} (hS : St W F (r :: rs) w) : St W F rs w := by
 obtain ⟨h,⟨h1,h2,_,hs,hd,hu⟩,s⟩ := hS
 have sub : ∀ b o,h2 b = some o → h b = some o := fun b o hb => by
  rw [hu]; rcases hd b with e | e
  ·simp [e,hb]
  ·rw [hb] at e; simp at e
 exact ⟨h2,hs,fun b o hb => s.agrees b o (sub b o hb),fun b o hb => s.foot b o (sub b o hb),s.size,s.os,s.tape,s.output,s.kept⟩

theorem St.get {W : World} {F : Nat → Prop} {b : Nat} {o : Obj} {rs : List Res} {w : World} (hS : St W F (pts b o :: rs) w) : w.heap[b]? = some o := by
 obtain ⟨h,⟨h1,h2,rfl,_,hd,hu⟩,s⟩ := hS
 exact s.agrees b o (by rw [hu,Zan]; rfl)

structure SetBlock (w w' : World) (b : Nat) (o : Obj) : Prop where
 size : w'.heap.size = w.heap.size
 at_ : w'.heap[b]? = some o
 other : ∀ k,k ≠ b → w'.heap[k]? = w.heap[k]?
 os : w'.os = w.os
 tape : w'.tape = w.tape
 output : w'.output = w.output

theorem St.set {W : World} {F : Nat → Prop} {b : Nat} {o o' : Obj} {rs : List Res} {w w' : World} (hS : St W F (pts b o :: rs) w) (u : SetBlock w w' b o') : St W F (pts b o' :: rs) w' := by
  obtain ⟨h,⟨h1,h2,rfl,hs,hd,hu⟩,s⟩ := hS
  have hb2 : h2 b = none := by rcases hd b with e | e; · rw [Zan] at e; simp at e
                               · exact e
  refine ⟨fun k => (Zcl b o' k).or (h2 k),⟨Zcl b o',h2,rfl,hs,fun k => ?_,fun _ => rfl⟩,?_⟩
  · by_cases e : k = b
    · subst e; exact .inr hb2
    · exact .inl (Zfi _ e)
  · have ex : ∀ k x,(Zcl b o' k).or (h2 k) = some x → (k = b ∧ x = o') ∨ (k ≠ b ∧ h k = some x) := fun k x hx => by
      by_cases e : k = b
      · subst e; rw [Zan] at hx; exact .inl ⟨rfl,by simpa using hx.symm⟩
      · rw [Zfi _ e] at hx; exact .inr ⟨e,by rw [hu,Zfi _ e]; exact hx⟩
    have fb : F b ∨ W.heap.size ≤ b := s.foot b o (by rw [hu,Zan]; rfl)
    refine ⟨fun k x hx => ?_,fun k x hx => ?_,by rw [u.size]; exact s.size,u.os.trans s.os,u.tape.trans s.tape,u.output.trans s.output,fun k hk hF => ?_⟩
    · rcases ex k x hx with ⟨rfl,rfl⟩ | ⟨e,hx⟩
      · exact u.at_
      · rw [u.other k e]; exact s.agrees k x hx
    · rcases ex k x hx with ⟨rfl,rfl⟩ | ⟨e,hx⟩
      · exact fb
      · exact s.foot k x hx
    · have : k ≠ b := fun e => by subst e; rcases fb with h | h; · exact hF h
                                  · omega
      rw [u.other k this]; exact s.kept k hk hF

theorem St.alloc {W : World} {F : Nat → Prop} {rs : List Res} {w : World} (hS : St W F rs w) (o : Obj) : St W F (pts w.heap.size o :: rs) (w.alloc o) := by
 obtain ⟨h,hs,s⟩ := hS
 have hn : h w.heap.size = none := by
  cases e : h w.heap.size with
  | none => rfl
  | some x => have := Zb6 (s.agrees _ _ e); omega
 have old : ∀ k,k < w.heap.size → (w.alloc o).heap[k]? = w.heap[k]? := fun k hk => by
  show (w.heap.push o)[k]? = _
  rw [Array.getElem?_push,if_neg (by omega)]
 refine ⟨fun k => (Zcl w.heap.size o k).or (h k),⟨_,h,rfl,hs,fun k => ?_,fun _ => rfl⟩,?_⟩
 ·by_cases e : k = w.heap.size
  ·subst e; exact .inr hn
  ·exact .inl (Zfi _ e)
 ·have ex : ∀ k x,(Zcl w.heap.size o k).or (h k) = some x → (k = w.heap.size ∧ x = o) ∨ h k = some x := fun k x hx => by
   by_cases e : k = w.heap.size
   ·subst e; rw [Zan] at hx; exact .inl ⟨rfl,by simpa using hx.symm⟩
   ·rw [Zfi _ e] at hx; exact .inr (by simpa using hx)
  refine ⟨fun k x hx => ?_,fun k x hx => ?_,by simp; have := s.size; omega,s.os,s.tape,s.output,fun k hk hF => ?_⟩
  ·rcases ex k x hx with ⟨rfl,rfl⟩ | hx
   ·exact heap_alloc_new w _
   ·have := s.agrees k x hx
    rw [old k (Zb6 this)]; exact this
  ·rcases ex k x hx with ⟨rfl,rfl⟩ | hx
   ·exact .inr s.size
   ·exact s.foot k x hx
  ·have := s.size
   rw [old k (by omega)]; exact s.kept k hk hF

theorem St.below {W : World} {F : Nat → Prop} {rs : List Res} {w w' : World} (hS : St W F rs w) (hb : RowKit.Below w.heap.size w w') : St W F rs w' := by
 obtain ⟨h,hs,s⟩ := hS
 refine ⟨h,hs,fun k x hx => ?_,s.foot,Nat.le_trans s.size hb.size,hb.os.trans s.os,hb.tape.trans s.tape,hb.output.trans s.output,fun k hk hF => ?_⟩
 ·have := s.agrees k x hx
  rw [hb.block k (Zb6 this)]; exact this
 ·have := s.size
  rw [hb.block k (by omega)]; exact s.kept k hk hF
theorem St.drew {W : World} {F : Nat → Prop} {rs : List Res} {w : World} (hS : St W F rs w) : St W F rs w.drew := by
 obtain ⟨h,hs,s⟩ := hS
 exact ⟨h,hs,s.agrees,s.foot,s.size,s.os,s.tape,s.output,s.kept⟩
theorem St.toBelow {W : World} {rs : List Res} {w : World} (hS : St W noF rs w) : RowKit.Below W.heap.size W w := by
 obtain ⟨h,_,s⟩ := hS
 exact ⟨s.os,s.tape,s.output,s.size,fun k hk => s.kept k hk (fun h => h)⟩

class Split (rs : List Res) (m : List Bool) (pre rest : outParam (List Res)) : Prop where
 perm : rs.Perm (pre ++ rest)
instance Split.nil (rs : List Res) : Split rs [] [] rs := ⟨.refl _⟩
instance Split.yes (r : Res) (rs : List Res) (m : List Bool) (pre rest : List Res) [h : Split rs m pre rest] : Split (r :: rs) (true :: m) (r :: pre) rest := ⟨.cons _ h.perm⟩
instance Split.no (r : Res) (rs : List Res) (m : List Bool) (pre rest : List Res) [h : Split rs m pre rest] : Split (r :: rs) (false :: m) pre (r :: rest) :=
 ⟨(List.Perm.cons r h.perm).trans (List.perm_middle.symm)⟩

class AppR (a b : List Res) (c : outParam (List Res)) : Prop where
 app : a ++ b = c
instance (b : List Res) : AppR [] b b := ⟨rfl⟩
instance (r : Res) (a b c : List Res) [h : AppR a b c] : AppR (r :: a) b (r :: c) := ⟨by simp [h.app]⟩
theorem St.call {W : World} {F : Nat → Prop} {rs : List Res} {w : World} (m : List Bool) {pre rest : List Res} [sp : Split rs m pre rest] (hS : St W F rs w) :
  ∃ F',St w F' pre w ∧ (∀ r ∈ rest,Ro w F' r) ∧ (∀ r,Ro W F r → Ro w F' r) ∧ ∀ {rs' rs'' : List Res} {w' : World} [AppR rs' rest rs''],St w F' rs' w' → St W F rs'' w' := by
 obtain ⟨h,hs,s⟩ := hS.perm sp.perm
 obtain ⟨h1,h2,hp,hr,hd,hu⟩ := Sep.append hs
 have in1 : ∀ b o,h1 b = some o → h b = some o := fun b o e => by rw [hu,e]; rfl
 have in2 : ∀ b o,h2 b = some o → h b = some o := fun b o e => by
  rw [hu]; rcases hd b with e' | e'
  ·simp [e',e]
  ·rw [e] at e'; simp at e'
 refine ⟨fun b => ∃ o,h1 b = some o,⟨h1,hp,fun b o e => s.agrees b o (in1 b o e),fun b o e => .inl ⟨o,e⟩,Nat.le_refl _,rfl,rfl,rfl,fun _ _ _ => rfl⟩,fun r hrm => ?_,fun r hro => ?_,fun {rs' rs'' w'} ha hS' => ?_⟩
 ·have key : ∀ (l : List Res) (g : Frag),Sep l g → (∀ b o,g b = some o → h2 b = some o) → ∀ r ∈ l,Ro w (fun b => ∃ o,h1 b = some o) r := by
   intro l
   induction l with
   | nil => intro _ _ _ r hr; cases hr
   | cons x l ih =>
    intro g hg hsub r hr
    obtain ⟨g1,g2,hx,hl,hdg,hug⟩ := hg
    cases hr with
    | head =>
     refine ⟨g1,hx,fun b o e => ?_⟩
     have e2 := hsub b o (by rw [hug,e]; rfl)
     exact ⟨s.agrees b o (in2 b o e2),fun ⟨o',e'⟩ => by rcases hd b with h | h <;> simp_all⟩
    | tail _ hr =>
     refine ih g2 hl (fun b o e => hsub b o ?_) r hr
     rw [hug]; rcases hdg b with h | h
     ·simp [h,e]
     ·rw [e] at h; simp at h
  exact key rest h2 hr (fun _ _ e => e) r hrm
 ·obtain ⟨g,hg,ha⟩ := hro
  refine ⟨g,hg,fun b o e => ?_⟩
  obtain ⟨hW,hF⟩ := ha b o e
  have hlt := Zb6 hW
  refine ⟨(s.kept b hlt hF).trans hW,fun ⟨o',e'⟩ => ?_⟩
  rcases s.foot b o' (in1 b o' e') with h | h
  ·exact hF h
  ·omega
 ·rw [← ha.app]
  obtain ⟨h',hs',s'⟩ := hS'
  have dis : ∀ k,h' k = none ∨ h2 k = none := fun k => by
   cases e : h' k with
   | none => exact .inl rfl
   | some o =>
    cases e2 : h2 k with
    | none => exact .inr rfl
    | some o2 =>
     have hlt := Zb6 (s.agrees k o2 (in2 k o2 e2))
     rcases s'.foot k o e with ⟨o3,h3⟩ | h3
     ·rcases hd k with h | h <;> simp_all
     ·omega
  refine ⟨fun k => (h' k).or (h2 k),Sep.append_mk hs' hr dis (fun _ => rfl),fun b o e => ?_,fun b o e => ?_,Nat.le_trans s.size s'.size,s'.os.trans s.os,s'.tape.trans s.tape,s'.output.trans s.output,fun b hb hF => ?_⟩
  ·cases e1 : h' b with
   | some x => simp [e1] at e; subst e; exact s'.agrees b _ e1
   | none =>
    simp [e1] at e
    have hw := s.agrees b o (in2 b o e)
    rw [s'.kept b (Zb6 hw) (fun ⟨o',e'⟩ => by rcases hd b with h | h <;> simp_all)]
    exact hw
  ·cases e1 : h' b with
   | some x =>
    rcases s'.foot b x e1 with ⟨o3,h3⟩ | h3
    ·exact s.foot b o3 (in1 b o3 h3)
    ·exact .inr (Nat.le_trans s.size h3)
   | none => simp [e1] at e; exact s.foot b o (in2 b o e)
  ·have hlt : b < w.heap.size := Nat.lt_of_lt_of_le hb s.size
   rw [s'.kept b hlt (fun ⟨o',e'⟩ => by
    rcases s.foot b o' (in1 b o' e') with h | h
    ·exact hF h
    ·omega)]
   exact s.kept b hb hF

theorem St.rd {W : World} {F : Nat → Prop} {rs : List Res} {w : World} (hS : St W F rs w) {r : Res} (hr : r ∈ rs) : Rd w r := by
 obtain ⟨F',_,h,_,_⟩ := hS.call []
 exact (h r hr).start
end Cr
namespace Cr
open Go
set_option maxHeartbeats 64000000

def Zkc (K : Act → World → Prop) : Exit → Act → World → Prop
 | .normal,a,w => K a w
 | _,_,_ => False

section
variable {P : Program} {ops : Array Oper}

theorem Zp9 {o : Oper} {a : Act} {K : Act → World → Prop} {Q Q' : Exit → Act → World → Prop} (hq : ∀ e a w,Q e a w → Q' e a w) {r : Result Next}
  (h : o.upon P a K Q r) : o.upon P a K Q' r := by
 cases r with
 | ok n w =>
  cases n <;> simp only [Oper.upon] at h ⊢ <;> first | exact h | skip
  exact h.mono fun e w' he => by cases e <;> first | exact he | exact hq _ _ _ he | (obtain ⟨a,w,h⟩ := he; exact ⟨a,w,hq _ _ _ h⟩)
 | halt x w => cases x <;> simp only [Oper.upon] at h ⊢ <;> first | exact h | exact hq _ _ _ h
theorem Zp7 {i : Nat} {a : Act} {w : World} {K : Act → World → Prop} {Q Q' : Exit → Act → World → Prop} (hq : ∀ e a w,Q e a w → Q' e a w)
  (h : wpOp P ops Q i K a w) : wpOp P ops Q' i K a w := by
 unfold wpOp at *
 split
 ·rename_i ho; simpa [ho] using h
 ·rename_i o ho
  simp only [ho] at h
  split
  ·rename_i hw; simp only [hw,if_true] at h
   exact h.imp (Zp9 hq) fun ⟨x,a,w,y⟩ => ⟨x,a,w,hq _ _ _ y⟩
  ·rename_i hw; simp only [hw] at h; exact h
theorem Ziw {md : Region.Mode} {Q Q' : Exit → Act → World → Prop} (hq : ∀ e a w,Q e a w → Q' e a w) : ∀ (fuel : Nat) (listed : Array Bool) (a : Act) (w : World),
  wpAny P md ops Q fuel listed a w → wpAny P md ops Q' fuel listed a w
 | 0,_,_,_,h => ⟨h.1,hq _ _ _ h.2⟩
 | fuel + 1,_,_,_,h => ⟨fun h0 => hq _ _ _ (h.1 h0),fun i hi => wpOp_mono (fun a' w' => Ziw hq fuel _ a' w') (Zp7 hq (h.2 i hi))⟩

def SoftAt (P : Program) (ops : Array Oper) (o : Oper) (v : Value) (I : World → Prop) (a : Act) : Prop :=
 (Region.wanted o (yielded ops a.tmps) = true ∧ ∀ w,I w → (execOp a.eval o).run P w = .ok (.value v) w) ∨ (Region.wanted o (yielded ops a.tmps) = false ∧ v = undef)

theorem SoftAt.of_same {o : Oper} {v : Value} {I : World → Prop} {a a' : Act} (hy : SoftAt P ops o v I a) (he : execOp a'.eval o = execOp a.eval o)
  (hw : Region.wanted o (yielded ops a'.tmps) = Region.wanted o (yielded ops a.tmps)) : SoftAt P ops o v I a' := by
 unfold SoftAt at *
 rw [he,hw]; exact hy

theorem SoftAt.wpOp {i : Nat} {o : Oper} {v : Value} {I : World → Prop} {a : Act} {w : World} {Q : Exit → Act → World → Prop} (hi : ops[i]? = some o) (hy : SoftAt P ops o v I a) (hI : I w) {K : Act → World → Prop}
  (h : K (a.put o.dst v) w) : wpOp P ops Q i K a w := by
 unfold Go.wpOp
 simp only [hi]
 rcases hy with ⟨hw,hv⟩ | ⟨hw,rfl⟩
 ·simp only [hw,if_true,Oper.wp,hv w hI,Oper.upon]; exact .inl h
 ·simp only [hw,Bool.false_eq_true,if_false]; exact h

theorem Zyx {j : Nat} {oi oj : Oper} {v : Value} {I : World → Prop} (hj : ops[j]? = some oj) (hap : oi.apart ops oj = true)
  (hsi : ∀ cs b,oi.op ≠ .select cs b) (hsj : ∀ cs b,oj.op ≠ .select cs b) {K K0 : Act → World → Prop} {a : Act} {w : World}
  (hy : SoftAt P ops oi v I a) (h : wpOp P ops (Zkc K0) j K (a.put oi.dst v) w) :
  wpOp P ops (Zkc K0) j (fun a' w' => SoftAt P ops oi v I a' ∧ K (a'.put oi.dst v) w') a w := by
 obtain ⟨h1,h2,h3⟩ := Oper.apart_spec hap
 have keep : ∀ (a : Act),SoftAt P ops oi v I a → ∀ u,SoftAt P ops oi v I (a.put oj.dst u) := fun a hy u =>
  hy.of_same (execOp_put oi hsi a oj.dst u h3) (wanted_put oi a oj.dst u h3)
 unfold wpOp at *
 simp only [hj] at *
 rw [wanted_put oj a oi.dst v h1] at h;have nolet : ¬ LetsOut (Zkc K0) := fun ⟨_,_,h⟩ => h
 split
 ·rename_i hw
  simp only [hw,if_true] at h
  rcases h with h | h
  ·left
   unfold Oper.wp at *
   rw [execOp_put oj hsj a oi.dst v h1] at h;generalize (execOp a.eval oj).run P w = r at *;cases r with
   | ok n w' =>
    cases n <;> simp only [Oper.upon] at h ⊢
    case value u => exact ⟨keep a hy u,by rw [← Act.put_comm a v u h2]; exact h⟩
    case skip => exact ⟨keep a hy _,by rw [← Act.put_comm a v undef h2]; exact h⟩
    case defer d =>
     refine ⟨?_,?_⟩
     ·have hd : SoftAt P ops oi v I { a with defers := d :: a.defers } := hy
      exact keep _ hd _
     ·have e : ({ a.put oi.dst v with defers := d :: (a.put oi.dst v).defers } : Act) = ({ a with defers := d :: a.defers } : Act).put oi.dst v := by
       cases oi.dst <;> rfl
      rw [e] at h;rw [← Act.put_comm _ v undef h2]; exact h
    case enter f args =>
     exact h.mono fun e w'' he => by
      cases e with
      | returned u => exact ⟨keep a hy u,by rw [← Act.put_comm a v u h2]; exact he⟩
      | panicked c => exact he
      | outgrown => exact he
    case row r args => exact h.mono fun u w'' he => ⟨keep a hy u,by rw [← Act.put_comm a v u h2]; exact he⟩
   | halt x w' => cases x <;> simp only [Oper.upon] at h ⊢ <;> exact h
  ·exact (nolet h.2).elim
 ·rename_i hw
  simp only [hw] at h
  exact ⟨keep a hy _,by rw [← Act.put_comm a v undef h2]; exact h⟩

def dep (ops : Array Oper) : Nat → Nat → Nat → Bool
 | 0,_,_ => false
 | n + 1,j,i => match ops[j]? with
  | none => false
  | some o => o.after.any fun e => Region.binds .any e && (e.on == i || dep ops n e.on i)

abbrev Invs := List (Nat × (World → Prop))
def Zik (ops : Array Oper) (k : Nat) : Invs → World → Prop
 | [],_ => True
 | (i,I) :: r,w => (dep ops ops.size k i = true ∨ I w) ∧ Zik ops k r w
def Zg4 (P : Program) (ops : Array Oper) (K : Act → World → Prop) : Nat → Array Bool → Invs → Act → World → Prop
 | 0,listed,_,a,w => Region.ready .any ops listed = [] ∧ K a w
 | f + 1,listed,invs,a,w =>
  (Region.ready .any ops listed = [] → K a w) ∧
  ∀ i ∈ Region.ready .any ops listed,wpOp P ops (Zkc K) i (fun a' w' => (∀ p ∈ invs,dep ops ops.size i p.1 = false → p.2 w → p.2 w') ∧ Zg4 P ops K f (listed.setIfInBounds i true) invs a' w') a w

theorem Zjv {K : Act → World → Prop} {invs invs' : Invs} (hs : ∀ p ∈ invs',p ∈ invs) : ∀ (f : Nat) (listed : Array Bool) (a : Act) (w : World),Zg4 P ops K f listed invs a w → Zg4 P ops K f listed invs' a w
 | 0,_,_,_,h => h
 | f + 1,_,_,_,h => ⟨h.1,fun i hi => wpOp_mono (fun a' w' ⟨h1,h2⟩ => ⟨fun p hp => h1 p (hs p hp),Zjv hs f _ a' w' h2⟩) (h.2 i hi)⟩
theorem Zli {K : Act → World → Prop} {invs : Invs} : ∀ (f : Nat) (listed : Array Bool) (a : Act) (w : World),Zg4 P ops K f listed invs a w → wpAny P .any ops (Zkc K) f listed a w
 | 0,_,_,_,h => h
 | f + 1,_,_,_,h => ⟨h.1,fun i hi => wpOp_mono (fun a' w' h' => Zli f _ a' w' h'.2) (h.2 i hi)⟩

def Closed (ops : Array Oper) (listed : Array Bool) : Prop :=
 ∀ j oj,ops[j]? = some oj → listed.getD j false = true → ∀ e ∈ oj.after,Region.binds .any e = true → listed.getD e.on false = true
theorem Closed.set {i : Nat} {listed : Array Bool} (inv : Closed ops listed) (hi : i ∈ Region.ready .any ops listed) : Closed ops (listed.setIfInBounds i true) := by
 obtain ⟨_,oi,hoi,hall⟩ := mem_ready.1 hi
 intro j oj hj hl e he hb
 by_cases hij : i = j
 ·subst hij
  have : oj = oi := Option.some.inj (hj.symm.trans hoi)
  subst this
  exact getD_set_true (hall e he hb)
 ·rw [getD_set_ne false hij] at hl
  exact getD_set_true (inv j oj hj hl e he hb)
theorem Zl7 {listed : Array Bool} (inv : Closed ops listed) {i : Nat} : ∀ (n j : Nat) (o : Oper),ops[j]? = some o → (∀ e ∈ o.after,Region.binds .any e = true → listed.getD e.on false = true) →
  dep ops n j i = true → listed.getD i false = true
 | 0,_,_,_,_,h => by cases h
 | n + 1,j,o,ho,hall,h => by
  simp only [dep,ho] at h
  obtain ⟨e,he,h2⟩ := Array.any_eq_true'.1 h
  simp only [Bool.and_eq_true,Bool.or_eq_true,beq_iff_eq] at h2
  have hl := hall e he h2.1
  rcases h2.2 with h3 | h3
  ·rw [← h3]; exact hl
  ·cases ho' : ops[e.on]? with
   | none => cases n <;> simp [dep,ho'] at h3
   | some o' => exact Zl7 inv n e.on o' ho' (fun e' he' hb' => inv e.on o' ho' hl e' he' hb') h3
theorem Zpb {listed : Array Bool} (inv : Closed ops listed) {i j : Nat} (hj : j ∈ Region.ready .any ops listed) (hi : listed.getD i true = false) (n : Nat) : dep ops n j i = false := by
 obtain ⟨_,o,ho,hall⟩ := mem_ready.1 hj
 cases h : dep ops n j i with
 | false => rfl
 | true => have := Zl7 inv n j o ho hall h; rw [getD_both hi] at this; cases this

theorem Zn8 {K : Act → World → Prop} {i : Nat} {oi : Oper} {v : Value} {I : World → Prop} (hi : ops[i]? = some oi) (hsel : ∀ (j : Nat) (o : Oper) cs b,ops[j]? = some o → o.op ≠ .select cs b) :
  ∀ (fuel : Nat) (listed : Array Bool) (invs : Invs) (a : Act) (w : World),Closed ops listed →
   (∀ j oj,ops[j]? = some oj → j ≠ i → listed.getD j true = false → (∀ e ∈ oj.after,Region.binds .any e = true → e.on ≠ i) → oi.apart ops oj = true) →
   i ∈ Region.ready .any ops listed → SoftAt P ops oi v I a → I w →
   Zg4 P ops K fuel (listed.setIfInBounds i true) ((i,I) :: invs) (a.put oi.dst v) w → Zg4 P ops K (fuel + 1) listed invs a w := by
 intro fuel
 induction fuel with
 | zero =>
  intro listed invs a w inv _ hr hy hI H
  refine ⟨fun h => (by rw [h] at hr; cases hr),fun j hj => ?_⟩
  by_cases hji : j = i
  ·subst hji; exact hy.wpOp hi hI ⟨fun _ _ _ h => h,H⟩
  ·have := ready_mono hj hji
   rw [H.1] at this;cases this
 | succ fuel ih =>
  intro listed invs a w inv hfree hr hy hI H
  refine ⟨fun h => (by rw [h] at hr; cases hr),fun j hj => ?_⟩
  by_cases hji : j = i
  ·subst hji; exact hy.wpOp hi hI ⟨fun _ _ _ h => h,Zjv (fun p hp => List.mem_cons_of_mem _ hp) _ _ _ _ H⟩
  ·have h1 := H.2 j (ready_mono hj hji)
   obtain ⟨hjun,oj,hoj,hall⟩ := mem_ready.1 hj
   have hun := (mem_ready.1 hr).1
   have hnot : ∀ e ∈ oj.after,Region.binds .any e = true → e.on ≠ i := fun e he hb heq => by
    have h1 := hall e he hb
    rw [heq,getD_both hun] at h1;cases h1
   have hdep : dep ops ops.size j i = false := Zpb inv hj hun _
   have h2 := Zyx hoj (hfree j oj hoj hji hjun hnot) (fun cs b => hsel i oi cs b hi) (fun cs b => hsel j oj cs b hoj) hy h1
   have hfree' : ∀ k ok,ops[k]? = some ok → k ≠ i → (listed.setIfInBounds j true).getD k true = false →
     (∀ e ∈ ok.after,Region.binds .any e = true → e.on ≠ i) → oi.apart ops ok = true := fun k ok hk hki hun hno => by
    refine hfree k ok hk hki ?_ hno
    by_cases hjk : j = k
    ·subst hjk; exact hjun
    ·rw [getD_set_ne true hjk] at hun; exact hun
   refine wpOp_mono (fun a' w' ⟨h3,h4,h5⟩ => ⟨fun p hp => h4 p (List.mem_cons_of_mem _ hp),?_⟩) h2
   refine ih (listed.setIfInBounds j true) invs a' w' (inv.set hj) hfree' (ready_mono hr (Ne.symm hji)) h3 (h4 (i,I) (List.mem_cons_self ..) hdep hI) ?_
   rw [Array.setIfInBounds_comm _ _ hji];exact h5

inductive OT where
 | nil
 | no
 | s (i : Nat) (r : OT)
 | h (i : Nat) (r o : OT)
def OT.alts : OT → List Nat
 | .h i _ o => i :: o.alts
 | _ => []
def Zn7 (P : Program) (ops : Array Oper) (K : Act → World → Prop) : OT → Invs → Act → World → Prop
 | .nil,_,a,w => K a w
 | .no,_,_,_ => True
 | .s i r,invs,a,w => ∃ o v I,ops[i]? = some o ∧ SoftAt P ops o v I a ∧ I w ∧ Zn7 P ops K r ((i,I) :: invs) (a.put o.dst v) w
 | .h i r o,invs,a,w => wpOp P ops (Zkc K) i (fun a' w' => (∀ p ∈ invs,dep ops ops.size i p.1 = false → p.2 w → p.2 w') ∧ Zn7 P ops K r invs a' w') a w ∧ Zn7 P ops K o invs a w

def ordT (ops : Array Oper) : OT → Bool → Nat → Array Bool → Bool
 | .nil,_,n,listed => n == 0 && (Region.ready .any ops listed).isEmpty
 | .no,top,_,_ => !top
 | .s i r,_,n,listed => n != 0 && (Region.ready .any ops listed).contains i && Region.free .any ops listed i && ordT ops r true (n - 1) (listed.setIfInBounds i true)
 | .h i r o,top,n,listed => n != 0 && (!top || decide (Region.ready .any ops listed = i :: o.alts)) && ordT ops r true (n - 1) (listed.setIfInBounds i true) && ordT ops o false n listed

theorem Zmk {K : Act → World → Prop} (hsel : ∀ (j : Nat) (o : Oper) cs b,ops[j]? = some o → o.op ≠ .select cs b) : ∀ t : OT,
  (∀ (n : Nat) (listed : Array Bool) (invs : Invs) (a : Act) (w : World),Closed ops listed → ordT ops t true n listed = true → Zn7 P ops K t invs a w → Zg4 P ops K n listed invs a w) ∧
  (∀ (n : Nat) (listed : Array Bool) (invs : Invs) (a : Act) (w : World),Closed ops listed → (∀ j ∈ t.alts,j ∈ Region.ready .any ops listed) → ordT ops t false (n + 1) listed = true → Zn7 P ops K t invs a w →
   ∀ j ∈ t.alts,wpOp P ops (Zkc K) j (fun a' w' => (∀ p ∈ invs,dep ops ops.size j p.1 = false → p.2 w → p.2 w') ∧ Zg4 P ops K n (listed.setIfInBounds j true) invs a' w') a w) := by
 intro t
 induction t with
 | nil =>
  refine ⟨fun n listed invs a w _ hB h => ?_,fun _ _ _ _ _ _ _ _ _ j hj => (List.not_mem_nil hj).elim⟩
  simp only [ordT,Bool.and_eq_true,beq_iff_eq] at hB
  obtain ⟨rfl,hB⟩ := hB
  exact ⟨by simpa using hB,h⟩
 | no => exact ⟨fun n listed invs a w _ hB _ => (by simp [ordT] at hB),fun _ _ _ _ _ _ _ _ _ j hj => (List.not_mem_nil hj).elim⟩
 | s i r ih =>
  refine ⟨fun n listed invs a w hc hB h => ?_,fun _ _ _ _ _ _ _ _ _ j hj => (List.not_mem_nil hj).elim⟩
  obtain ⟨o,v,I,ho,hy,hI,h⟩ := h
  simp only [ordT,Bool.and_eq_true,bne_iff_ne,ne_eq] at hB
  obtain ⟨⟨⟨hn,hr⟩,hf⟩,hB'⟩ := hB
  obtain ⟨m,rfl⟩ : ∃ m,n = m + 1 := ⟨n - 1,by omega⟩
  have hr' : i ∈ Region.ready .any ops listed := by simpa using hr
  exact Zn8 ho hsel m listed invs a w hc (Region.free_spec ho hf) hr' hy hI (ih.1 _ _ _ _ _ (hc.set hr') hB' h)
 | h i r o ih1 ih2 =>
  have second : ∀ (n : Nat) (listed : Array Bool) (invs : Invs) (a : Act) (w : World),Closed ops listed → (∀ j ∈ (OT.h i r o).alts,j ∈ Region.ready .any ops listed) → ordT ops (.h i r o) false (n + 1) listed = true → Zn7 P ops K (.h i r o) invs a w →
   ∀ j ∈ (OT.h i r o).alts,wpOp P ops (Zkc K) j (fun a' w' => (∀ p ∈ invs,dep ops ops.size j p.1 = false → p.2 w → p.2 w') ∧ Zg4 P ops K n (listed.setIfInBounds j true) invs a' w') a w := by
   intro n listed invs a w hc hall hB h j hj
   simp only [ordT,Bool.and_eq_true] at hB
   obtain ⟨⟨_,hB1⟩,hB2⟩ := hB
   obtain ⟨h1,h2⟩ := h
   rcases List.mem_cons.1 hj with rfl | hj'
   ·exact wpOp_mono (fun a' w' ⟨g1,g2⟩ => ⟨g1,ih1.1 _ _ _ _ _ (hc.set (hall _ hj)) hB1 g2⟩) h1
   ·exact ih2.2 n listed invs a w hc (fun k hk => hall k (List.mem_cons_of_mem _ hk)) hB2 h2 j hj'
  refine ⟨fun n listed invs a w hc hB h => ?_,second⟩
  simp only [ordT,Bool.and_eq_true,bne_iff_ne,ne_eq,Bool.not_true,Bool.false_or,decide_eq_true_eq] at hB
  obtain ⟨⟨⟨hn,hr⟩,hB1⟩,hB2⟩ := hB
  obtain ⟨m,rfl⟩ : ∃ m,n = m + 1 := ⟨n - 1,by omega⟩
  refine ⟨fun h0 => (by rw [h0] at hr; cases hr),fun j hj => ?_⟩
  refine second m listed invs a w hc (fun k hk => by rw [hr]; exact hk) ?_ h j (by rw [hr] at hj; exact hj)
  simp only [ordT,Bool.and_eq_true,bne_iff_ne,ne_eq,Bool.not_false,Bool.true_or]
  exact ⟨⟨⟨hn,trivial⟩,hB1⟩,hB2⟩

theorem Zmj {id : Nat} {Q : Exit → Act → World → Prop} {a : Act} {w : World} (ord : OT) (hm : P.follows .mixedOrders = true)
  (hB : (Region.noSelect ops && ordT ops ord true ops.size (Array.replicate ops.size false)) = true)
  (h : Zn7 P ops (Q .normal) ord [] a w.drew) : (Code.region id ops true).wp P Q a w := by
 simp only [Bool.and_eq_true] at hB
 obtain ⟨hsel,hB⟩ := hB
 have hc : Closed ops (Array.replicate ops.size false) := fun j oj _ hl => (by rw [getD_replicate_false] at hl; cases hl)
 refine wp_region_any hm ?_
 have h1 := Zli _ _ _ _ ((Zmk (Region.noSelect_spec hsel) ord).1 _ _ [] a w.drew hc hB h)
 exact Ziw (fun e a w hq => by cases e <;> first | exact hq | exact hq.elim) _ _ _ _ h1
end
abbrev Env := List (Nat × Value)
def look : Env → Nat → Option Value
 | [],_ => none
 | (k,v) :: r,n => bif Nat.beq k n then some v else look r n
def ev (σ : Env) : Operand → Option Value
 | .tmp t => look σ t
 | .const v => some v
 | .global g => some (.pointer (some ⟨g,0,none⟩))
 | .func f => some (.func (.func f) #[] #[])

structure Md where
 ds : List Deferred
 ro : Option Nat
abbrev md0 : Md := ⟨[],none⟩
def Fc (m : Md) : Fence := { Fence.wide with round := m.ro }
theorem Zrj {m : Md} (h : m.ro = none) : Fc m = Fence.wide := by unfold Fc; rw [h]; rfl
theorem Zn2 (m : Md) {n : Nat} : (Fc m).depth.isSome = true → 1 ≤ n := fun h => by simp [Fc,Fence.wide] at h

structure Fr (σ : Env) (N : Nat) (ds : Md) (a : Act) : Prop where
 size : a.tmps.size = N
 defers : a.defers = ds.ds
 at_ : ∀ n v,look σ n = some v → a.tmps[n]? = some v

theorem Fr.eval {σ : Env} {N : Nat} {ds : Md} {a : Act} (h : Fr σ N ds a) {x : Operand} {v : Value} (hx : ev σ x = some v) : a.eval x = v := by
 cases x with
 | tmp t => have := h.at_ t v hx; simp [Act.eval,this]
 | _ => simpa [ev,Act.eval] using hx
theorem Zc2 (d : Nat) (v : Value) (σ : Env) : look ((d,v) :: σ) d = some v := by simp [look]
theorem Zd8 {d n : Nat} (v : Value) (σ : Env) (h : d ≠ n) : look ((d,v) :: σ) n = look σ n := by
 have : Nat.beq d n = false := by
  cases e : Nat.beq d n with
  | false => rfl
  | true => exact absurd (Nat.eq_of_beq_eq_true e) h
 simp [look,this]
theorem Fr.put {σ : Env} {N : Nat} {ds : Md} {a : Act} (h : Fr σ N ds a) {d : Nat} (hd : d < N) (v : Value) : Fr ((d,v) :: σ) N ds (a.put (some d) v) := by
 refine ⟨by simp [Act.put,h.size],h.defers,fun n u hu => ?_⟩
 by_cases e : d = n
 ·subst e
  rw [Zc2] at hu;simp only [Act.put]
  rw [Array.getElem?_setIfInBounds_self_of_lt (by rw [h.size]; exact hd)]
  exact hu
 ·rw [Zd8 _ _ e] at hu
  simp only [Act.put]
  rw [Array.getElem?_setIfInBounds_ne e];exact h.at_ n u hu
theorem Zam {a b : Nat} (h : Nat.blt a b = true) : a < b := Nat.le_of_ble_eq_true h
def subs (σ : Env) : Env → Prop
 | [] => True
 | (n,v) :: r => look σ n = some v ∧ subs σ r
theorem Fr.sub {σ σ' : Env} {N : Nat} {ds : Md} {a : Act} (h : Fr σ N ds a) (hs : subs σ σ') : Fr σ' N ds a := by
 refine ⟨h.size,h.defers,?_⟩
 induction σ' with
 | nil => intro n v hv; cases hv
 | cons x r ih =>
  obtain ⟨k,u⟩ := x
  intro n v hv
  by_cases e : k = n
  ·subst e; rw [Zc2] at hv; exact h.at_ _ _ (hs.1.trans hv)
  ·rw [Zd8 _ _ e] at hv; exact ih hs.2 n v hv

/-! ### the judgements -/
section
variable (P : Program)
structure X (o : Oper) (N : Nat) (ds : Md) (σ : Env) (w : World) (K : Env → World → Prop) : Prop where
 run : ∀ a,Fr σ N ds a → ∀ (K' : Act → World → Prop) (Q : Exit → Act → World → Prop),(∀ σ' w' a',Fr σ' N ds a' → K σ' w' → K' a' w') → o.wp P a w K' Q
structure G (ops : Array Oper) (Q : Exit → Act → World → Prop) (l : List Oper) (N : Nat) (ds : Md) (σ : Env) (w : World) : Prop where
 run : ∀ a,Fr σ N ds a → wpListIn (Fc ds) 0 P ops Q l a w
structure GO (ops : Array Oper) (K : Act → World → Prop) (ord : OT) (invs : Invs) (N : Nat) (ds : Md) (σ : Env) (w : World) : Prop where
 run : ∀ a,Fr σ N ds a → ∀ invs',(∀ p ∈ invs',p ∈ invs ∨ ∀ w,p.2 w) → Zn7 P ops K ord invs' a w
structure C (c : Code) (Q : Exit → Act → World → Prop) (N : Nat) (ds : Md) (σ : Env) (w : World) : Prop where
 run : ∀ a,Fr σ N ds a → c.wpIn (Fc ds) 0 P Q a w
end
structure E (Q : Exit → Act → World → Prop) (e : Exit) (N : Nat) (ds : Md) (σ : Env) (w : World) : Prop where
 run : ∀ a,Fr σ N ds a → Q e a w

section
variable {P : Program} {ops : Array Oper} {Q : Exit → Act → World → Prop} {N : Nat} {ds : Md} {σ : Env} {w : World} {rest : List Oper} {o : Oper}

theorem Zp2 (h : E Q .normal N ds σ w) : G P ops Q [] N ds σ w := ⟨fun a ha => h.run a ha⟩
def Z21 : Op → Bool
 | .defer _ => false
 | _ => true
theorem Z6a {a : Act} {K : Act → World → Prop} (hnd : Z21 o.op = true) (h : o.wp P a w K Q) : o.wpIn (Fc ds) 0 P a w K Q := by
 have hsem : o.semAt (Fc ds).round a.eval = execOp a.eval o := Oper.semAt_eq _ _ _ fun c hc => by rw [hc] at hnd; cases hnd
 refine ⟨fun _ _ => trivial,?_⟩
 rw [hsem];unfold Oper.wp at h
 generalize (execOp a.eval o).run P w = r at *;cases r with
 | ok x w' =>
  cases x <;> simp only [Oper.upon] at h <;> simp only [Oper.uponIn] <;> first | exact h | skip
  case enter f args => exact ⟨Zn2 ds,show CallsIn Fence.wide _ _ _ _ _ _ from callsIn_wide.2 (h.mono fun e w' he => by cases e <;> exact he)⟩
  case row r args => exact ⟨Zn2 ds,fun c cs _ => by
   obtain ⟨v,w',hr,hs⟩ := h c cs
   exact ⟨v,w',hr,stepsIn_wide.2 hs⟩⟩
 | halt x w' => cases x <;> simp only [Oper.upon] at h <;> simp only [Oper.uponIn] <;> exact h
theorem Ze9 (hg : o.guard = none) (hnd : Z21 o.op = true) (h : X P o N ds σ w (fun σ' w' => G P ops Q rest N ds σ' w')) : G P ops Q (o :: rest) N ds σ w := ⟨fun a ha =>
 wpListIn_plain hg fun K hK => Z6a hnd (h.run a ha K Q fun _ _ a' ha' hG => hK _ _ (hG.run a' ha'))⟩
theorem Zds {j d : Nat} {b b' : Bool} (hg : o.guard = some (j,b)) (hd : (ops[j]?).bind (·.dst) = some d) (hl : look σ d = some (.bool b')) {a : Act} (ha : Fr σ N ds a) : Region.wanted o (yielded ops a.tmps) = (b' == b) := by
 simp [Region.wanted,hg,yielded,hd,ha.at_ d _ hl]
theorem Zn9 {j d : Nat} {b : Bool} (hg : o.guard = some (j,b)) (hd : (ops[j]?).bind (·.dst) = some d) (hl : look σ d = some undef) {a : Act} (ha : Fr σ N ds a) : Region.wanted o (yielded ops a.tmps) = false := by
 simp [Region.wanted,hg,yielded,hd,ha.at_ d _ hl,undef]
theorem Z0w {j d : Nat} {b : Bool} (hg : o.guard = some (j,b)) (hd : (ops[j]?).bind (·.dst) = some d) (hl : look σ d = some (.bool b)) (hnd : Z21 o.op = true)
  (h : X P o N ds σ w (fun σ' w' => G P ops Q rest N ds σ' w')) : G P ops Q (o :: rest) N ds σ w := ⟨fun a ha => by
 unfold wpListIn
 rw [if_pos (by rw [Zds hg hd hl ha]; simp)]
 exact Z6a hnd (h.run a ha _ Q fun _ _ a' ha' hG => hG.run a' ha')⟩
theorem G_no {j d t : Nat} {b b' : Bool} (hg : o.guard = some (j,b)) (hd : (ops[j]?).bind (·.dst) = some d) (hl : look σ d = some (.bool b')) (hb : (b' == b) = false) (ht : o.dst = some t) (hN : Nat.blt t N = true)
  (h : G P ops Q rest N ds ((t,undef) :: σ) w) : G P ops Q (o :: rest) N ds σ w := ⟨fun a ha => by
 unfold wpListIn
 rw [if_neg (by rw [Zds hg hd hl ha,hb]; simp),ht]
 exact ⟨fun _ _ => trivial,h.run _ (ha.put (Zam hN) _)⟩⟩
theorem Zmg {j d t : Nat} {b : Bool} (hg : o.guard = some (j,b)) (hd : (ops[j]?).bind (·.dst) = some d) (hl : look σ d = some undef) (ht : o.dst = some t) (hN : Nat.blt t N = true)
  (h : G P ops Q rest N ds ((t,undef) :: σ) w) : G P ops Q (o :: rest) N ds σ w := ⟨fun a ha => by
 unfold wpListIn
 rw [if_neg (by rw [Zn9 hg hd hl ha]; simp),ht]
 exact ⟨fun _ _ => trivial,h.run _ (ha.put (Zam hN) _)⟩⟩

theorem Fr.recall {σ : Env} {N : Nat} {ds : Md} {a : Act} (h : Fr σ N ds a) {d : Nat} {v : Value} (hl : look σ d = some v) : Fr ((d,v) :: σ) N ds a := by
 refine ⟨h.size,h.defers,fun n u hu => ?_⟩
 by_cases e : d = n
 ·subst e; rw [Zc2] at hu; exact h.at_ _ _ (hl.trans hu)
 ·rw [Zd8 _ _ e] at hu; exact h.at_ n u hu
theorem Zit {d : Nat} {p : Prop} [Decidable p] (hl : look σ d = some (.bool (decide p))) {l : List Oper}
  (ht : p → G P ops Q l N ds ((d,.bool true) :: σ) w) (hf : ¬ p → G P ops Q l N ds ((d,.bool false) :: σ) w) : G P ops Q l N ds σ w := ⟨fun a ha => by
 by_cases h : p
 ·exact (ht h).run a (ha.recall (by rw [hl]; simp [h]))
 ·exact (hf h).run a (ha.recall (by rw [hl]; simp [h]))⟩
structure Yl (P : Program) (o : Oper) (σ : Env) (w : World) (v : Value) : Prop where
 run : ∀ N ds a,Fr σ N ds a → (execOp a.eval o).run P w = .ok (.value v) w

theorem X_yl {v : Value} {d : Nat} {K : Env → World → Prop} (hy : Yl P o σ w v) (hd : o.dst = some d) (hN : Nat.blt d N = true) (h : K ((d,v) :: σ) w) : X P o N ds σ w K := ⟨fun a ha K' Q' hK => by
 unfold Oper.wp
 rw [hy.run N ds a ha];have := hK _ _ _ (ha.put (Zam hN) v) h
 rw [← hd] at this;exact this⟩

/-! ### a region that draws its order -/
variable {K : Act → World → Prop} {invs : Invs} {r : OT} {i : Nat}
theorem Z7p (h : E Q .normal N ds σ w) : GO P ops (Q .normal) .nil invs N ds σ w := ⟨fun a ha _ _ => h.run a ha⟩
theorem Zai {v : Value} {d : Nat} (hi : ops[i]? = some o) (hg : o.guard = none) (hy : ∀ w,Yl P o σ w v) (hd : o.dst = some d) (hN : Nat.blt d N = true) (h : GO P ops K r invs N ds ((d,v) :: σ) w) : GO P ops K (.s i r) invs N ds σ w :=
 ⟨fun a ha invs' hs => ⟨o,v,fun _ => True,hi,.inl ⟨by simp [Region.wanted,hg],fun w _ => (hy w).run N ds a ha⟩,trivial,by
  rw [hd]; exact h.run _ (ha.put (Zam hN) v) _ fun p hp => by
   cases hp with
   | head => exact .inr fun _ => trivial
   | tail _ hp => exact hs p hp⟩⟩
theorem Zbp {v : Value} {d : Nat} (I : World → Prop) (hi : ops[i]? = some o) (hg : o.guard = none) (hI : I w) (hy : ∀ w,I w → Yl P o σ w v) (hd : o.dst = some d) (hN : Nat.blt d N = true)
  (h : GO P ops K r ((i,I) :: invs) N ds ((d,v) :: σ) w) : GO P ops K (.s i r) invs N ds σ w :=
 ⟨fun a ha invs' hs => ⟨o,v,I,hi,.inl ⟨by simp [Region.wanted,hg],fun w hw => (hy w hw).run N ds a ha⟩,hI,by
  rw [hd]; exact h.run _ (ha.put (Zam hN) v) _ fun p hp => by
   cases hp with
   | head => exact .inl (List.mem_cons_self ..)
   | tail _ hp => exact (hs p hp).imp (List.mem_cons_of_mem _) id⟩⟩
theorem Zco {j d' : Nat} {b : Bool} {v : Value} {d : Nat} (hi : ops[i]? = some o) (hg : o.guard = some (j,b)) (hj : (ops[j]?).bind (·.dst) = some d') (hl : look σ d' = some (.bool b)) (hy : ∀ w,Yl P o σ w v) (hd : o.dst = some d) (hN : Nat.blt d N = true)
  (h : GO P ops K r invs N ds ((d,v) :: σ) w) : GO P ops K (.s i r) invs N ds σ w :=
 ⟨fun a ha invs' hs => ⟨o,v,fun _ => True,hi,.inl ⟨by rw [Zds hg hj hl ha]; simp,fun w _ => (hy w).run N ds a ha⟩,trivial,by
  rw [hd]; exact h.run _ (ha.put (Zam hN) v) _ fun p hp => by
   cases hp with
   | head => exact .inr fun _ => trivial
   | tail _ hp => exact hs p hp⟩⟩
theorem Zd6 {j d' : Nat} {b : Bool} {v : Value} {d : Nat} (I : World → Prop) (hi : ops[i]? = some o) (hg : o.guard = some (j,b)) (hj : (ops[j]?).bind (·.dst) = some d') (hl : look σ d' = some (.bool b)) (hI : I w) (hy : ∀ w,I w → Yl P o σ w v) (hd : o.dst = some d) (hN : Nat.blt d N = true)
  (h : GO P ops K r ((i,I) :: invs) N ds ((d,v) :: σ) w) : GO P ops K (.s i r) invs N ds σ w :=
 ⟨fun a ha invs' hs => ⟨o,v,I,hi,.inl ⟨by rw [Zds hg hj hl ha]; simp,fun w hw => (hy w hw).run N ds a ha⟩,hI,by
  rw [hd]; exact h.run _ (ha.put (Zam hN) v) _ fun p hp => by
   cases hp with
   | head => exact .inl (List.mem_cons_self ..)
   | tail _ hp => exact (hs p hp).imp (List.mem_cons_of_mem _) id⟩⟩
theorem Z9h {j d' : Nat} {b b' : Bool} {d : Nat} (hi : ops[i]? = some o) (hg : o.guard = some (j,b)) (hj : (ops[j]?).bind (·.dst) = some d') (hl : look σ d' = some (.bool b')) (hb : (b' == b) = false) (hd : o.dst = some d) (hN : Nat.blt d N = true)
  (h : GO P ops K r invs N ds ((d,undef) :: σ) w) : GO P ops K (.s i r) invs N ds σ w :=
 ⟨fun a ha invs' hs => ⟨o,undef,fun _ => True,hi,.inr ⟨by rw [Zds hg hj hl ha,hb],rfl⟩,trivial,by
  rw [hd]; exact h.run _ (ha.put (Zam hN) undef) _ fun p hp => by
   cases hp with
   | head => exact .inr fun _ => trivial
   | tail _ hp => exact hs p hp⟩⟩
theorem Zfn {k : Nat} {w : World} : ∀ {invs : Invs},Zik ops k invs w → ∀ p ∈ invs,dep ops ops.size k p.1 = true ∨ p.2 w
 | [],_,_,hp => by cases hp
 | _ :: _,h,p,hp => by
  cases hp with
  | head => exact h.1
  | tail _ hp => exact Zfn h.2 p hp
theorem Z38 (hi : ops[i]? = some o) (hg : o.guard = none) (h : X P o N ds σ w (fun σ' w' => Zik ops i invs w' ∧ GO P ops K r invs N ds σ' w')) : GO P ops K (.h i r .no) invs N ds σ w :=
 ⟨fun a ha invs' hs => by
  refine ⟨?_,trivial⟩
  show wpOp P ops (Zkc K) i _ a w
  unfold wpOp
  simp only [hi]
  rw [if_pos (by simp [Region.wanted,hg])]
  exact .inl (h.run a ha _ _ fun σ' w' a' ha' ⟨hk,hG⟩ => ⟨fun p hp hd _ => by
   rcases hs p hp with hp | hp
   ·exact (Zfn hk p hp).resolve_left (by rw [hd]; simp)
   ·exact hp w',hG.run a' ha' invs' hs⟩)⟩
theorem Zfa {j d' : Nat} {b : Bool} (hi : ops[i]? = some o) (hg : o.guard = some (j,b)) (hj : (ops[j]?).bind (·.dst) = some d') (hl : look σ d' = some (.bool b)) (h : X P o N ds σ w (fun σ' w' => Zik ops i invs w' ∧ GO P ops K r invs N ds σ' w')) : GO P ops K (.h i r .no) invs N ds σ w :=
 ⟨fun a ha invs' hs => by
  refine ⟨?_,trivial⟩
  show wpOp P ops (Zkc K) i _ a w
  unfold wpOp
  simp only [hi]
  rw [if_pos (by rw [Zds hg hj hl ha]; simp)]
  exact .inl (h.run a ha _ _ fun σ' w' a' ha' ⟨hk,hG⟩ => ⟨fun p hp hd _ => by
   rcases hs p hp with hp | hp
   ·exact (Zfn hk p hp).resolve_left (by rw [hd]; simp)
   ·exact hp w',hG.run a' ha' invs' hs⟩)⟩
theorem Zu4 {j d' : Nat} {b b' : Bool} {d : Nat} (hi : ops[i]? = some o) (hg : o.guard = some (j,b)) (hj : (ops[j]?).bind (·.dst) = some d') (hl : look σ d' = some (.bool b')) (hb : (b' == b) = false) (hd : o.dst = some d) (hN : Nat.blt d N = true)
  (h : GO P ops K r invs N ds ((d,undef) :: σ) w) : GO P ops K (.h i r .no) invs N ds σ w :=
 ⟨fun a ha invs' hs => by
  refine ⟨?_,trivial⟩
  show wpOp P ops (Zkc K) i _ a w
  unfold wpOp
  simp only [hi]
  rw [if_neg (by rw [Zds hg hj hl ha,hb]; simp),hd]
  exact ⟨fun _ _ _ h => h,h.run _ (ha.put (Zam hN) undef) invs' hs⟩⟩
theorem Zp3 {i' : Nat} {r' o' : OT} (h1 : GO P ops K (.h i r .no) invs N ds σ w) (h2 : GO P ops K (.h i' r' o') invs N ds σ w) : GO P ops K (.h i r (.h i' r' o')) invs N ds σ w :=
 ⟨fun a ha invs' hs => ⟨(h1.run a ha invs' hs).1,h2.run a ha invs' hs⟩⟩

/-! ### code -/
variable {x y : Code} {c : Operand}
theorem Zc1 (h : C P x (Exit.then (y.wpIn (Fc ds) 0 P Q) Q) N ds σ w) : C P (.seq x y) Q N ds σ w := ⟨fun a ha => wpIn_seq (h.run a ha)⟩
theorem Zcq (h : C P y Q N ds σ w) : E (Exit.then (y.wpIn (Fc ds) 0 P Q) Q) .normal N ds σ w := ⟨fun a ha => h.run a ha⟩
theorem Zax {id : Nat} {l : List Oper} (h : G P l.toArray Q l N ds σ w) : C P (.region id l.toArray false) Q N ds σ w := ⟨fun a ha => wpIn_region_lit (h.run a ha)⟩
theorem Zyq (hro : ds.ro = none) (h : ∀ a,Fr σ N ds a → x.wp P Q a w) : C P x Q N ds σ w := ⟨fun a ha => by rw [Zrj hro]; exact wpIn_wide.2 (h a ha)⟩
theorem Zyp (hro : ds.ro = none) (h : C P x Q N ds σ w) : ∀ a,Fr σ N ds a → x.wp P Q a w := fun a ha => by have := h.run a ha; rw [Zrj hro] at this; exact wpIn_wide.1 this
theorem Ziu {l : Nat} (h : E Q .normal N ds σ w) : C P (.label l) Q N ds σ w := ⟨fun a ha => wpIn_label (h.run a ha)⟩
theorem Z39 (hro : ds.ro = none) (h : C P x (Exit.noGoto Q) N ds σ w) : C P (.scope x) Q N ds σ w := Zyq hro fun a ha => wp_scope_straight (Zyp hro h a ha)
theorem Zth {e : Exit} (he : ∀ l,e ≠ .goto l) (h : E Q e N ds σ w) : E (Exit.noGoto Q) e N ds σ w := ⟨fun a ha => by cases e <;> first | exact h.run a ha | exact absurd rfl (he _)⟩
theorem Zao {id : Nat} {l : List Oper} (ord : OT) (hm : P.follows .mixedOrders = true)
  (hB : (Region.noSelect l.toArray && ordT l.toArray ord true l.toArray.size (Array.replicate l.toArray.size false)) = true)
  (hro : ds.ro = none) (h : GO P l.toArray (Q .normal) ord [] N ds σ w.drew) : C P (.region id l.toArray true) Q N ds σ w := Zyq hro fun a ha =>
 Zmj ord hm hB (h.run a ha [] fun _ hp => by cases hp)
theorem Zfd (h : E Q .normal N ds σ w) : C P .skip Q N ds σ w := ⟨fun a ha => wpIn_skip (h.run a ha)⟩
theorem Zji (h : E Q .ret N ds σ w) : C P .ret Q N ds σ w := ⟨fun a ha => wpIn_ret (h.run a ha)⟩
theorem Zyr {id : Nat} (h : E Q (.exit id) N ds σ w) : C P (.exit id) Q N ds σ w := ⟨fun a ha => wpIn_exit (h.run a ha)⟩
theorem Zdg {id : Nat} (h : C P x (Exit.inBlock id Q) N ds σ w) : C P (.block id x) Q N ds σ w := ⟨fun a ha => wpIn_block (h.run a ha)⟩
theorem Z7s {b : Bool} (hc : ev σ c = some (.bool b)) (ht : b = true → C P x Q N ds σ w) (hf : b = false → C P y Q N ds σ w) : C P (.cond c x y) Q N ds σ w := ⟨fun a ha =>
 wpIn_cond_split (ha.eval hc) (fun h => (ht h).run a ha) (fun h => (hf h).run a ha)⟩
theorem Ziv {p : Prop} [Decidable p] (hc : ev σ c = some (.bool (decide p))) (ht : p → C P x Q N ds σ w) (hf : ¬ p → C P y Q N ds σ w) : C P (.cond c x y) Q N ds σ w :=
 Z7s hc (fun h => ht (of_decide_eq_true h)) (fun h => hf (of_decide_eq_false h))
theorem Zys {p : Prop} [Decidable p] (hc : ev σ c = some (.bool (decide p))) (hp : p) (ht : C P x Q N ds σ w) : C P (.cond c x y) Q N ds σ w := Ziv hc (fun _ => ht) (fun h => absurd hp h)
theorem Zyt {p : Prop} [Decidable p] (hc : ev σ c = some (.bool (decide p))) (hp : ¬ p) (hf : C P y Q N ds σ w) : C P (.cond c x y) Q N ds σ w := Ziv hc (fun h => absurd h hp) (fun _ => hf)
theorem Zb9 (hc : ev σ c = some (.bool true)) (ht : C P x Q N ds σ w) : C P (.cond c x y) Q N ds σ w := ⟨fun a ha => wpIn_cond_true (ha.eval hc) (ht.run a ha)⟩
theorem Zbk (hc : ev σ c = some (.bool false)) (hf : C P y Q N ds σ w) : C P (.cond c x y) Q N ds σ w := ⟨fun a ha => wpIn_cond_false (ha.eval hc) (hf.run a ha)⟩
theorem Zju {α : Type} {F : Fence} {n : Nat} {body : Code} {a : Act} (I : α → Act → World → Prop) (μ : α → Nat) (z0 : α) (h0 : I z0 a w)
  (round : ∀ z a w,I z a w → body.wpIn F n P (Exit.then (fun a' w' => ∃ z',I z' a' w' ∧ μ z' < μ z) Q) a w) : (Code.loop body).wpIn F n P Q a w := by
 intro b k cs hro hb hr
 have key : ∀ j z a w,μ z = j → I z a w →
   ∃ e a' w',Q e a' w' ∧ ArrivesIn (Machine.fenced P F) P (lone (b.atR a (.code body :: .inLoop body :: k)) cs w) b k cs e a' w' := by
  intro j
  induction j using Nat.strongRecOn with
  | _ j ih =>
   intro z a w hn hI
   obtain ⟨e,a1,w1,hq,harr⟩ := round z a w hI b (.inLoop body :: k) cs hro hb hr
   cases e with
   | normal =>
    obtain ⟨z',hI',hlt⟩ := hq
    obtain ⟨e2,a2,w2,hq2,harr2⟩ := ih (μ z') (hn ▸ hlt) z' a1 w1 rfl hI'
    exact ⟨e2,a2,w2,hq2,.of_steps (StepsIn.trans harr (.one (fenced_calm hb hr rfl) stepR_inLoop)) harr2⟩
   | exit id => exact ⟨_,a1,w1,hq,.pass (x := .inLoop body) rfl (fun _ _ => .inl (by simp)) harr⟩
   | goto l => exact ⟨_,a1,w1,hq,.pass (x := .inLoop body) rfl (fun _ _ => .inl (by simp)) harr⟩
   | ret => exact ⟨_,a1,w1,hq,.pass (x := .inLoop body) rfl (fun _ _ => .inl (by simp)) harr⟩
   | panic ch => exact ⟨_,a1,w1,hq,.pass (x := .inLoop body) rfl (fun _ _ => .inl (by simp)) harr⟩
   | outgrown => exact ⟨_,a1,w1,hq,.pass (x := .inLoop body) rfl (fun _ _ => .inl (by simp)) harr⟩
 obtain ⟨e,a',w',hq,harr⟩ := key _ z0 a w rfl h0
 exact ⟨e,a',w',hq,.of_steps (.one (fenced_calm hb hr rfl) stepR_loop) harr⟩
theorem Zaj {α : Type} (S : α → Env) (R : α → World → Prop) (μ : α → Nat) (x0 : α) (hσ : subs σ (S x0)) (hR : R x0 w)
  (round : ∀ z w,R z w → C P x (Exit.then (fun a' w' => ∃ z',(Fr (S z') N ds a' ∧ R z' w') ∧ μ z' < μ z) Q) N ds (S z) w) : C P (.loop x) Q N ds σ w := ⟨fun _ ha =>
 Zju (fun z a w => Fr (S z) N ds a ∧ R z w) μ x0 ⟨ha.sub hσ,hR⟩ fun z a w ⟨hF,hR⟩ => (round z w hR).run a hF⟩
theorem Zae {α : Type} {S : α → Env} {R : α → World → Prop} {μ : α → Nat} {z : α} (z' : α) (hσ : subs σ (S z')) (hR : R z' w) (hμ : μ z' < μ z) :
  E (Exit.then (fun a' w' => ∃ z',(Fr (S z') N ds a' ∧ R z' w') ∧ μ z' < μ z) Q) .normal N ds σ w := ⟨fun _ ha => ⟨z',⟨ha.sub hσ,hR⟩,hμ⟩⟩

theorem Zdq {K : Act → World → Prop} (h : E Q .ret N ds σ w) : E (Exit.then K Q) .ret N ds σ w := ⟨h.run⟩
theorem Zc0 {K : Act → World → Prop} {id : Nat} (h : E Q (.exit id) N ds σ w) : E (Exit.then K Q) (.exit id) N ds σ w := ⟨h.run⟩
theorem Zrl {id : Nat} (h : E Q .normal N ds σ w) : E (Exit.inBlock id Q) .normal N ds σ w := ⟨h.run⟩
theorem Zla {id : Nat} (h : E Q .ret N ds σ w) : E (Exit.inBlock id Q) .ret N ds σ w := ⟨h.run⟩
theorem Zdr {id : Nat} (h : E Q .normal N ds σ w) : E (Exit.inBlock id Q) (.exit id) N ds σ w := ⟨fun a ha => by
 simp only [Exit.inBlock,if_true]; exact h.run a ha⟩
theorem Z0x {id id' : Nat} (hne : (id' == id) = false) (h : E Q (.exit id') N ds σ w) : E (Exit.inBlock id Q) (.exit id') N ds σ w := ⟨fun a ha => by
 have : id' ≠ id := by simpa using hne
 simp only [Exit.inBlock,if_neg this]; exact h.run a ha⟩

/-! ### a function's entry and its end -/
def enum : Nat → List Value → Env
 | _,[] => []
 | n,v :: l => (n,v) :: enum (n + 1) l
theorem Zou : ∀ (l : List Value) (n k : Nat) (v : Value),look (enum n l) k = some v → n ≤ k ∧ l[k - n]? = some v
 | [],_,_,_,h => by cases h
 | u :: l,n,k,v,h => by
  by_cases e : n = k
  ·subst e; rw [enum,Zc2] at h; simp at h; simp [h]
  ·rw [enum,Zd8 _ _ e] at h
   obtain ⟨h1,h2⟩ := Zou l (n + 1) k v h
   refine ⟨by omega,?_⟩
   rw [show k - n = (k - (n + 1)) + 1 by omega]; simpa using h2
abbrev BP (P : Program) (fn : Func) (R : Ending → World → Prop) : Exit → Act → World → Prop := bodyPostM (Fc md0) 0 P fn R
theorem Zxe {fn : Func} {args : List Value} (hN : fn.ntmps = N) (hl : Nat.ble args.length N = true) : Fr (enum 0 args) N md0 { tmps := args.toArray ++ Array.replicate (fn.ntmps - args.toArray.size) undef,defers := [] } := by
 refine ⟨?_,rfl,fun n v hv => ?_⟩
 ·have : args.length ≤ N := Nat.le_of_ble_eq_true hl
  simp [hN]; omega
 ·obtain ⟨_,h2⟩ := Zou args 0 n v hv
  have hlt : n < args.length := by
   rcases Nat.lt_or_ge n args.length with h | h
   ·exact h
   ·rw [List.getElem?_eq_none (by omega)] at h2; cases h2
  simp only [Nat.sub_zero] at h2
  simp [Array.getElem?_append,hlt,← h2]
theorem Zab {f : FuncId} {fn : Func} {body : Code} {args : List Value} {R : Ending → World → Prop} (hf : P.funcs[f]? = some fn) (hb : fn.body = some body) (hN : fn.ntmps = N) (hl : Nat.ble args.length N = true)
  (h : C P body (BP P fn R) N md0 (enum 0 args) w) : Calls P f args.toArray w R :=
 (callsIn_wide (n := 0)).1 (callsIn_of_wp_marks (F := Fence.wide) hf hb trivial (h.run _ (Zxe hN hl)) rfl)

def Rv (P : Program) (σ : Env) (w : World) : ResultVar → Value → Prop
 | .tmp t,v => look σ t = some v
 | .cell t ty,v => ∃ a,look σ t = some (.pointer (some a)) ∧ (loadVar ty a).run P w = .ok v w
theorem Zbj {t : Nat} {v : Value} (h : look σ t = some v) : Rv P σ w (.tmp t) v := h
theorem Zbg {t : Nat} {ty : TypeId} {v : Value} {a : Addr} (h : look σ t = some (.pointer (some a))) (hl : (loadVar ty a).run P w = .ok v w) : Rv P σ w (.cell t ty) v := ⟨a,h,hl⟩
def Zzd (tmps : Array Value) : ResultVar → Sem Value
 | .tmp t => pure (tmps.getD t undef)
 | .cell a t => do loadVar t (← asAddr (tmps.getD a undef))
theorem Zf1 (fn : Func) (tmps : Array Value) : results fn tmps = (do
  let vs ← fn.results.mapM (Zzd tmps)
  pure (if h : vs.size = 1 then vs[0] else .tuple vs)) := rfl
theorem Rv.run {rv : ResultVar} {v : Value} (h : Rv P σ w rv v) {a : Act} (ha : Fr σ N ds a) : (Zzd a.tmps rv).run P w = .ok v w := by
 cases rv with
 | tmp t => have := ha.at_ t v h; simp [Zzd,this]
 | cell t ty =>
  obtain ⟨ad,h1,h2⟩ := h
  have := ha.at_ t _ h1
  simp [Zzd,this,asAddr,h2]
theorem Zmi {fn : Func} {R : Ending → World → Prop} {a : Act} {v : Value} (ha : a.defers = []) (hr : (results fn a.tmps).run P w = .ok v w) (hR : R (.returned v) w) : BP P fn R .ret a w ∧ BP P fn R .normal a w := by
 have : LeavesInM (Fc md0) 0 P fn a.tmps R a.defers .returning w := by rw [ha]; exact ⟨v,hr,hR⟩
 exact ⟨this,this⟩
theorem Z1w {fn : Func} {R : Ending → World → Prop} (h : fn.results = #[]) (hR : R (.returned (.tuple #[])) w) : E (BP P fn R) .ret N md0 σ w :=
 ⟨fun _ ha => (Zmi ha.defers (by simp [results,h]) hR).1⟩
theorem Z7r {fn : Func} {R : Ending → World → Prop} (h : fn.results = #[]) (hR : R (.returned (.tuple #[])) w) : E (BP P fn R) .normal N md0 σ w :=
 ⟨fun _ ha => (Zmi ha.defers (by simp [results,h]) hR).2⟩
theorem Zh6 {fn : Func} {R : Ending → World → Prop} {r0 : ResultVar} {v0 : Value} (h : fn.results = #[r0]) (h0 : Rv P σ w r0 v0) (hR : R (.returned v0) w) : E (BP P fn R) .ret N md0 σ w :=
 ⟨fun a ha => (Zmi ha.defers (by rw [Zf1,h]; have e0 := h0.run ha; simp [e0]) hR).1⟩
theorem Zp5 {fn : Func} {R : Ending → World → Prop} {r0 r1 : ResultVar} {v0 v1 : Value} (h : fn.results = #[r0,r1]) (h0 : Rv P σ w r0 v0) (h1 : Rv P σ w r1 v1) (hR : R (.returned (.tuple #[v0,v1])) w) : E (BP P fn R) .ret N md0 σ w :=
 ⟨fun a ha => (Zmi ha.defers (by rw [Zf1,h]; have e0 := h0.run ha; have e1 := h1.run ha; simp [e0,e1]) hR).1⟩
theorem Z1v {fn : Func} {R : Ending → World → Prop} {r0 r1 r2 : ResultVar} {v0 v1 v2 : Value} (h : fn.results = #[r0,r1,r2]) (h0 : Rv P σ w r0 v0) (h1 : Rv P σ w r1 v1) (h2 : Rv P σ w r2 v2) (hR : R (.returned (.tuple #[v0,v1,v2])) w) : E (BP P fn R) .ret N md0 σ w :=
 ⟨fun a ha => (Zmi ha.defers (by rw [Zf1,h]; have e0 := h0.run ha; have e1 := h1.run ha; have e2 := h2.run ha; simp [e0,e1,e2]) hR).1⟩
theorem Z7q {fn : Func} {R : Ending → World → Prop} {r0 r1 r2 r3 : ResultVar} {v0 v1 v2 v3 : Value} (h : fn.results = #[r0,r1,r2,r3]) (h0 : Rv P σ w r0 v0) (h1 : Rv P σ w r1 v1) (h2 : Rv P σ w r2 v2) (h3 : Rv P σ w r3 v3) (hR : R (.returned (.tuple #[v0,v1,v2,v3])) w) : E (BP P fn R) .ret N md0 σ w :=
 ⟨fun a ha => (Zmi ha.defers (by rw [Zf1,h]; have e0 := h0.run ha; have e1 := h1.run ha; have e2 := h2.run ha; have e3 := h3.run ha; simp [e0,e1,e2,e3]) hR).1⟩
end
end Cr
