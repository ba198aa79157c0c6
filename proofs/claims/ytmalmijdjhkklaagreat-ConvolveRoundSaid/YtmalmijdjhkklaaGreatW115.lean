/- plan.Choose. -/
import Derived.Test.YtmalmijdjhkklaaGreatW109
import Derived.Test.YtmalmijdjhkklaaGreatRndH
import Derived.Test.YtmalmijdjhkklaaGreatW90
import Derived.Deep.RegionHeld
import Derived.Deep.MidRow
set_option linter.unusedVariables false
set_option linter.unusedSimpArgs false
set_option maxRecDepth 100000
set_option maxHeartbeats 16000000
namespace Go.Proofs.YtmalmijdjhkklaaGreat
section
open Go.RowKit
attribute [local go_sem] Oper.semAt_some
def zD7 (b:PlT):Array Value:= #[.int .i64 b.1, .int .i64 b.2.1, .int .i64 b.2.2]
structure ChI (w:World) (q:Option Addr) (n k:Int) (b:PlT) (W:World):Prop where
 size:w.heap.size+7≤W.heap.size
 below:Below w.heap.size w W
 kb:zAI W w.heap.size 34 #[.int .i64 k]
 res:zAI W (w.heap.size+1) 36 (zD7 (0,0,0))
 book:Book W (w.heap.size+2)
 mb:zAI W (w.heap.size+3) 94 #[.map (some (w.heap.size+2))]
 best:zAI W (w.heap.size+4) 36 (zD7 b)
 cf:W.cell? ⟨w.heap.size+5,0,none⟩=some (.pointer q)
 cn:W.cell? ⟨w.heap.size+6,0,none⟩=some (.int .i64 n)
theorem Book.low {w w':World} {bm B:Nat} (h:Book w bm) (hb:Below B w w') (hB:bm<B):Book w' bm:=by
 obtain ⟨ms,clock,hm,hs,hx⟩:=h
 exact ⟨ms,clock,(hb.block bm hB).trans hm,hs,hx⟩
theorem zDt {w w':World} {B:Nat} {a:Addr} {v:Value} (hb:Below B w w') (hB:a.block<B) (h:w.cell? a=some v):w'.cell? a=some v:=by
 rw [←h];simp only [World.cell?,hb.block a.block hB]
theorem ChI.keep {w:World} {q:Option Addr} {n k:Int} {b:PlT} {W W':World} (h:ChI w q n k b W) (hb:Below (w.heap.size+7) W W'):ChI w q n k b W':=
 {size:=Nat.le_trans h.size hb.size
  below:=h.below.trans (hb.mono (by omega))
  kb:=h.kb.below hb (by omega)
  res:=h.res.below hb (by omega)
  book:=h.book.low hb (by omega)
  mb:=h.mb.below hb (by omega)
  best:=h.best.below hb (by omega)
  cf:=zDt hb (by simp) h.cf
  cn:=zDt hb (by simp) h.cn }
theorem ChI.but {w:World} {q:Option Addr} {n k:Int} {b:PlT} {W W':World} (h:ChI w q n k b W) (hk:Book W' (w.heap.size+2)) (hb:But (w.heap.size+2) W W'):ChI w q n k b W':=
 {size:=Nat.le_trans h.size hb.size
  below:=h.below.trans (hb.below h.below.size (by omega))
  kb:=h.kb.but hb (by omega)
  res:=h.res.but hb (by omega)
  book:=hk
  mb:=h.mb.but hb (by omega)
  best:=h.best.but hb (by omega)
  cf:=hb.cell (by have:=h.size;omega) (by omega) h.cf
  cn:=hb.cell (by have:=h.size;omega) (by omega) h.cn }
theorem Book.set {w:World} {bm:Nat} (h:Book w bm) (a:Addr) (v:Value) (hn:bm≠a.block):Book (w.setCell a v) bm:=by
 obtain ⟨ms,clock,hm,hs,hx⟩:=h
 exact ⟨ms,clock,(heap_setCell_other w a bm v hn).trans hm,hs,hx⟩
theorem zDv {w:World} {a c:Addr} {v u:Value} (h:w.cell? a=some v) (hn:a.block≠c.block):(w.setCell c u).cell? a=some v:=by
 rw [World.cell?_setCell_other _ _ _ _ (fun e=>hn (by rw [e]))];exact h
theorem ChI.set {w:World} {q:Option Addr} {n k:Int} {b:PlT} {W:World} (h:ChI w q n k b W) (x0 x1 x2:Int):
  ChI w q n k (x0,x1,x2) (((W.setCell ⟨w.heap.size+4,0,none⟩ (.int .i64 x0)).setCell ⟨w.heap.size+4,1,none⟩ (.int .i64 x1)).setCell ⟨w.heap.size+4,2,none⟩ (.int .i64 x2)):=
 {size:=by have:=h.size;simpa using this
  below:=zCn (zCn (zCn h.below (by omega) 0 _) (by omega) 1 _) (by omega) 2 _
  kb:=((h.kb.setOther _ _ (by simp)).setOther _ _ (by simp)).setOther _ _ (by simp)
  res:=((h.res.setOther _ _ (by simp)).setOther _ _ (by simp)).setOther _ _ (by simp)
  book:=((h.book.set _ _ (by simp)).set _ _ (by simp)).set _ _ (by simp)
  mb:=((h.mb.setOther _ _ (by simp)).setOther _ _ (by simp)).setOther _ _ (by simp)
  best:=((h.best.set 0 (.int .i64 x0)).set 1 (.int .i64 x1)).set 2 (.int .i64 x2)
  cf:=zDv (zDv (zDv h.cf (by simp)) (by simp)) (by simp)
  cn:=zDv (zDv (zDv h.cn (by simp)) (by simp)) (by simp) }
theorem zEv {w w3:World} {q:Option Addr} {n k:Int}
  (hB:Below (((((w.alloc (.cells #[.int .i64 k] 34)).alloc (.cells (zD7 (0,0,0)) 36)).alloc (.map #[] 0)).alloc (.cells #[.map (some (w.heap.size+1+1))] 94)).alloc (.cells #[.int .i64 0, .int .i64 0, .int .i64 0] 36)).heap.size
   (((((w.alloc (.cells #[.int .i64 k] 34)).alloc (.cells (zD7 (0,0,0)) 36)).alloc (.map #[] 0)).alloc (.cells #[.map (some (w.heap.size+1+1))] 94)).alloc (.cells #[.int .i64 0, .int .i64 0, .int .i64 0] 36)) w3)
  (hs:w3.heap.size=w.heap.size+7) (c0:w3.cell? ⟨w.heap.size+5,0,none⟩=some (.pointer q)) (c1:w3.cell? ⟨w.heap.size+6,0,none⟩=some (.int .i64 n)):ChI w q n k (0,0,0) w3:=by
 have hb:Below w.heap.size w (((((w.alloc (.cells #[.int .i64 k] 34)).alloc (.cells (zD7 (0,0,0)) 36)).alloc (.map #[] 0)).alloc (.cells #[.map (some (w.heap.size+1+1))] 94)).alloc (.cells #[.int .i64 0, .int .i64 0, .int .i64 0] 36)):=
  (((((Below.refl _ w).alloc (Nat.le_refl _) _).alloc (by simp only [World.size_alloc];omega) _).alloc (by simp only [World.size_alloc];omega) _).alloc (by simp only [World.size_alloc];omega) _).alloc (by simp only [World.size_alloc];omega) _
 have r2:=zAI.new (w.alloc (.cells #[.int .i64 k] 34)) 36 (zD7 (0,0,0))
 rw [World.size_alloc] at r2
 have r3:=zCA ((w.alloc (.cells #[.int .i64 k] 34)).alloc (.cells (zD7 (0,0,0)) 36))
 rw [World.size_alloc,World.size_alloc] at r3
 have r4:=zAI.new (((w.alloc (.cells #[.int .i64 k] 34)).alloc (.cells (zD7 (0,0,0)) 36)).alloc (.map #[] 0)) 94 #[.map (some (w.heap.size+1+1))]
 rw [World.size_alloc,World.size_alloc,World.size_alloc] at r4
 have r5:=zAI.new ((((w.alloc (.cells #[.int .i64 k] 34)).alloc (.cells (zD7 (0,0,0)) 36)).alloc (.map #[] 0)).alloc (.cells #[.map (some (w.heap.size+1+1))] 94)) 36 #[.int .i64 0, .int .i64 0, .int .i64 0]
 rw [World.size_alloc,World.size_alloc,World.size_alloc,World.size_alloc] at r5
 have al: ∀ {X:World} {bm:Nat} (o:Obj),Book X bm→Book (X.alloc o) bm:=fun o h=>h.below ((Below.refl _ _).alloc (Nat.le_refl _) _)
 exact {
  size:=by omega
  below:=hb.trans (hB.mono hb.size)
  kb:=(((((zAI.new w 34 #[.int .i64 k]).alloc _).alloc _).alloc _).alloc _).keep hB
  res:=(((r2.alloc _).alloc _).alloc _).keep hB
  book:=(al _ (al _ r3)).below hB
  mb:=(r4.alloc _).keep hB
  best:=r5.keep hB
  cf:=c0
  cn:=c1 }
theorem zEt {w:World} {q:Option Addr} {p g:Int} (hFd:Fd w w.heap.size (.pointer q) p g) (n k:Int) (n0: -9223372036854775808≤n) (n1:n≤9223372036854775807) (hchk:chk p n 1024=0):
  Calls Tryz.prog 25 #[.pointer q, .int .i64 n, .int .i64 k] w fun e w'=>e= .returned (.tuple #[.agg (zD7 (chF k (allL p n))), .int .i64 (if chF k (allL p n)=(0,0,0) then 11 else 0)])∧Below w.heap.size w w':=by
 have hn:=zEo hchk
 have HFd:=zy hFd
 obtain ⟨c,hc⟩: ∃c,c=chF k (allL p n):=⟨_,rfl⟩
 obtain ⟨er,her⟩: ∃er:Int,er=if chF k (allL p n)=(0,0,0) then 11 else 0:=⟨_,rfl⟩
 rw [←her,←hc]
 rw [←hc] at her
 have HC:=zy hc
 have HE:=zy her
 clear hc her
 have hmk: ∀W,(Instr.makeMap 94 none).run Tryz.prog W= .ok (.map (some W.heap.size)) (W.alloc (.map #[] 0)):=fun W=>by simp [Instr.makeMap,Result.andThen]
 have R2:=zy (lay2 w 34 36 #[.int .i64 k] (zD7 (0,0,0)))
 have HCk:=zy (zNX (hFd.below R2.out.2.2) n n0 n1)
 rw [hchk] at HCk
 have HA:=zy (fun W=>zOt q n W)
 have hF47:Fence.wide.fn 53:=trivial
 have e47: ∀args w,(callFunc 53 args).run Tryz.prog w= .ok (.enter 53 args) w:=enters_of Tryz.func53 (by kernel_rfl) rfl
 have hF21:Fence.wide.fn 23:=trivial
 have e21: ∀args w,(callFunc 23 args).run Tryz.prog w= .ok (.enter 23 args) w:=enters_of Tryz.func23 (by kernel_rfl) rfl
 have e55: ∀args w,(callFunc 61 args).run Tryz.prog w= .ok (.enter 61 args) w:=enters_of Tryz.func61 (by kernel_rfl) rfl
 clear hFd
 refine (callsIn_wide (n:=4)).1 ?_
 refine callsIn_of_wp_marks Tryz.func25 rfl trivial ?_ rfl
 simp only [Tryz.ntmps25,List.size_toArray,List.length_cons,List.length_nil,Nat.reduceAdd,Nat.reduceSub,Array.replicate_succ,Array.replicate_zero,List.push_toArray,List.append_toArray,List.nil_append,List.cons_append]
 gi_wp2_with (first|(gi_at_call 53;refine (callsIn_wide.2 HCk.out).mono ?_;rintro r w2 ⟨rfl,rfl⟩)|(gi_at_call 23;refine (callsIn_wide.2 (HA.out _)).mono ?_;rintro r w3 ⟨rfl,hB3,hs3,c0,c1⟩))
 have hs7:w3.heap.size=w.heap.size+7:=by simp at hs3;omega
 have HI0:Hid (ChI w q n k (chF k []) w3):=zy (zEv hB3 hs7 (by simpa [Nat.add_assoc] using c0) (by simpa [Nat.add_assoc] using c1))
 clear hB3 hs3 c0 c1
 simp only [Nat.add_assoc,Nat.reduceAdd]
 refine zRk (gf:=61) (lb:= #[.pointer (some ⟨w.heap.size+5,0,none⟩), .pointer (some ⟨w.heap.size+6,0,none⟩)]) rfl e55
  (fun W0' _ _=>zB5 q p g n (w.heap.size+5) (w.heap.size+6) hchk W0') (fun _=>rfl)
  (fun s W=>ChI w q n k (chF k s) W) (fun c s W=>False) ?hI ?hIx ?hC ?h0 ?hround ?hdone ?hstop
 case hI=>exact fun s W W' h hb=>h.keep (by rw [hs7] at hb;exact hb)
 case hIx=>exact fun c s W W' h hb=>h
 case hC=>exact fun s W h=>⟨(HFd.out.below h.below).mono h.below.size,h.cf,h.cn⟩
 case h0=>exact HI0.out
 case hround=>
  rintro m pre ⟨x0,x1,x2⟩ W KK hsz hW hpre hKK
  have HW:=zy hW
  have HKK:=zy hKK
  have hcx:CanP (x0,x1,x2):=zBz hn hchk (hpre.subset (List.mem_append_right _ (List.mem_singleton.2 rfl)))
  have hcb:=zDJ k pre (fun y hy=>zBz hn hchk (hpre.subset (List.mem_append_left _ hy)))
  have HChz:Hid (chF k (pre ++ [(x0,x1,x2)])=chz k (chF k pre) (x0,x1,x2)):=zy (zDM _ _ _)
  rw [hs7] at hsz
  clear hW hKK hpre
  simp only [encP]
  gi_wp2
  refine HKK.out _ _ (HW.out.keep ((Below.refl _ W).alloc (by omega) _)) (zAa.of_below ((Below.refl _ W).alloc (Nat.le_refl _) _)) ?_
  intro W2 E hE hEo hEp hb hs hne
  rw [hs7] at hb
  have hs':W2.heap.size=W.heap.size+1:=by rw [hs];simp
  have hr2:zAI W2 W.heap.size 36 #[.int .i64 x0, .int .i64 x1, .int .i64 x2]:=by
   unfold zAI
   rw [hne W.heap.size (by omega)]
   exact zAI.new W _ _
  have hI2:=(HW.out.keep ((Below.refl _ W).alloc (by omega) (.cells #[.int .i64 x0, .int .i64 x1, .int .i64 x2] 36))).keep hb
  have HEn:Hid (∀a W',ChI w q n k (chz k (chF k pre) (x0,x1,x2)) W'→zAa (w.heap.size+7) W2 W'→E .normal a W'):=zy (fun a W' h1 h2=>hE .normal a W' ⟨by show ChI w q n k (chF k (pre ++ [(x0,x1,x2)])) W';rw [HChz.out];exact h1,by rw [hs7];exact h2⟩)
  obtain ⟨⟨b0,b1,b2⟩,hbe⟩: ∃b,b=chF k pre:=⟨_,rfl⟩
  rw [←hbe] at HEn hI2 hcb
  obtain ⟨X,hX⟩: ∃X,X=W.heap.size:=⟨_,rfl⟩
  rw [←hX] at hr2 hsz ⊢
  have HOx:=zMP (w.heap.size+2) x0 x1 x2 hcx
  obtain ⟨cx,hcxe⟩: ∃cx,cx=zEO x0 x1 x2:=⟨_,rfl⟩
  have ZI:Hid ((fun wz=>ChI w q n k (b0,b1,b2) wz∧zAI wz X 36 #[.int .i64 x0, .int .i64 x1, .int .i64 x2]∧zAa (w.heap.size+7) W2 wz) W2):=zy ⟨hI2,hr2,zAa.refl _ _⟩
  have z0:Hid (ChI w q n k (b0,b1,b2) (W2.drewN 1)∧zAI (W2.drewN 1) X 36 #[.int .i64 x0, .int .i64 x1, .int .i64 x2]∧zAa (w.heap.size+7) W2 (W2.drewN 1)):=zy ⟨hI2.keep (below_drewN (Below.refl _ _) 1),hr2.drewN 1,zAa.of_below (below_drewN (Below.refl _ _) 1)⟩
  have HX:Hid (∀wz,(ChI w q n k (b0,b1,b2) wz∧zAI wz X 36 #[.int .i64 x0, .int .i64 x1, .int .i64 x2]∧zAa (w.heap.size+7) W2 wz)→Calls Tryz.prog 56 #[.map (some (w.heap.size+2)), .agg #[.int .i64 x0, .int .i64 x1, .int .i64 x2]] wz fun e w'=>e= .returned (.int .i64 cx)∧(ChI w q n k (b0,b1,b2) w'∧zAI w' X 36 #[.int .i64 x0, .int .i64 x1, .int .i64 x2]∧zAa (w.heap.size+7) W2 w')):=zy (fun wz hz=>by
   rw [hcxe]
   exact (HOx wz hz.1.book).mono fun e w' h=>⟨h.1,hz.1.but h.2.1 h.2.2,hz.2.1.but h.2.2 (by omega),hz.2.2.trans (zAa.of_but h.2.2 (by omega))⟩)
  obtain ⟨cb,hcbe⟩: ∃cb,cb=zEO b0 b1 b2:=⟨_,rfl⟩
  have HB:Hid (CanP (b0,b1,b2)→ ∀wz,(ChI w q n k (b0,b1,b2) wz∧zAI wz X 36 #[.int .i64 x0, .int .i64 x1, .int .i64 x2]∧zAa (w.heap.size+7) W2 wz)→Calls Tryz.prog 56 #[.map (some (w.heap.size+2)), .agg #[.int .i64 b0, .int .i64 b1, .int .i64 b2]] wz fun e w'=>e= .returned (.int .i64 cb)∧(ChI w q n k (b0,b1,b2) w'∧zAI w' X 36 #[.int .i64 x0, .int .i64 x1, .int .i64 x2]∧zAa (w.heap.size+7) W2 w')):=zy (fun hcan wz hz=>by
   rw [hcbe]
   exact (zMP (w.heap.size+2) b0 b1 b2 hcan wz hz.1.book).mono fun e w' h=>⟨h.1,hz.1.but h.2.1 h.2.2,hz.2.1.but h.2.2 (by omega),hz.2.2.trans (zAa.of_but h.2.2 (by omega))⟩)
  have HSZ:Hid (∀wz,(ChI w q n k (b0,b1,b2) wz∧zAI wz X 36 #[.int .i64 x0, .int .i64 x1, .int .i64 x2]∧zAa (w.heap.size+7) W2 wz)→(wz.cell? ⟨w.heap.size,0,none⟩=some (.int .i64 k)∧wz.cell? ⟨w.heap.size+3,0,none⟩=some (.map (some (w.heap.size+2)))∧wz.cell? ⟨X,0,none⟩=some (.int .i64 x0)∧zAI wz (w.heap.size+4) 36 #[.int .i64 b0, .int .i64 b1, .int .i64 b2]∧zAI wz X 36 #[.int .i64 x0, .int .i64 x1, .int .i64 x2])):=
   zy (fun wz hz=>⟨hz.1.kb.cell rfl,hz.1.mb.cell rfl,hz.2.1.cell rfl,hz.1.best,hz.2.1⟩)
  have HChE:Hid (chz k (b0,b1,b2) (x0,x1,x2)=if (k= -1∨k=x0)∧((b0,b1,b2)=((0:Int),(0:Int),(0:Int))∨cx<cb) then (x0,x1,x2) else (b0,b1,b2)):=zy (by rw [hcxe,hcbe];rfl)
  have HSt:Hid (∀W',(ChI w q n k (b0,b1,b2) W'∧zAI W' X 36 #[.int .i64 x0, .int .i64 x1, .int .i64 x2]∧zAa (w.heap.size+7) W2 W')→chz k (b0,b1,b2) (x0,x1,x2)=(b0,b1,b2)→ ∀a,E .normal a W'):=zy (fun W' hz he a=>HEn.out a W' (by rw [he];exact hz.1) hz.2.2)
  have HTk:Hid (∀W',(ChI w q n k (b0,b1,b2) W'∧zAI W' X 36 #[.int .i64 x0, .int .i64 x1, .int .i64 x2]∧zAa (w.heap.size+7) W2 W')→chz k (b0,b1,b2) (x0,x1,x2)=(x0,x1,x2)→ ∀a,E .normal a (((W'.setCell ⟨w.heap.size+4,0,none⟩ (.int .i64 x0)).setCell ⟨w.heap.size+4,1,none⟩ (.int .i64 x1)).setCell ⟨w.heap.size+4,2,none⟩ (.int .i64 x2))):=zy (fun W' hz he a=>
   HEn.out a _ (by rw [he];exact hz.1.set x0 x1 x2) (((hz.2.2.trans (zAa.setCell _ _ (by simp))).trans (zAa.setCell _ _ (by simp))).trans (zAa.setCell _ _ (by simp))))
  have heq:=fun W=>zGn b0 b1 b2 0 0 0 W
  unfold zOq at heq
  have HCb:=zy hcb
  clear hcxe hcbe HOx hI2 hr2 hb hs hne hE HEn ZI HKK HChz hcx hcb hbe HW hs' hX
  by_cases hk:k= -1∨k=x0
  case neg=>
   have hk1:(k == -1)=false:=by rw [beq_eq_false_iff_ne];exact fun h=>hk (.inl h)
   have hk2:(k == x0)=false:=by rw [beq_eq_false_iff_ne];exact fun h=>hk (.inr h)
   have HF:=zy (HSt.out _ z0.out (by rw [HChE.out,if_neg (fun h=>hk h.1)]))
   gi_wp2
   refine zRz (S:=fun wz=>wz.cell? ⟨w.heap.size,0,none⟩=some (.int .i64 k)∧wz.cell? ⟨w.heap.size+3,0,none⟩=some (.map (some (w.heap.size+2)))∧wz.cell? ⟨X,0,none⟩=some (.int .i64 x0)∧zAI wz (w.heap.size+4) 36 #[.int .i64 b0, .int .i64 b1, .int .i64 b2]∧zAI wz X 36 #[.int .i64 x0, .int .i64 x1, .int .i64 x2]) (by kernel_rfl) (by kernel_rfl) (fun ⟨_,_,h⟩=>hEo ⟨_,_,h⟩) (HSZ.out _ z0.out) (fun hHeld=>?_)
   clear hHeld
   refine zZ (i:=0) (v:=?_) rfl (by kernel_rfl) hEp (by rfl) ?_ (HSZ.out _ z0.out) ?_
   rotate_left
   ·intro w h;go_simp;try with_reducible rfl
   try simp only [zv,zx]
   refine zZ (i:=1) (v:=?_) rfl (by kernel_rfl) hEp (by rfl) ?_ (HSZ.out _ z0.out) ?_
   rotate_left
   ·intro w h;go_simp;try with_reducible rfl
   try simp only [zv,zx]
   refine zZ (i:=2) (v:=?_) rfl (by kernel_rfl) hEp (by rfl) ?_ (HSZ.out _ z0.out) ?_
   rotate_left
   ·intro w h;go_simp;try with_reducible rfl
   try simp only [zv,zx]
   refine zZ (i:=3) (v:=?_) rfl (by kernel_rfl) hEp (by rfl) ?_ (HSZ.out _ z0.out) ?_
   rotate_left
   ·intro w h;go_simp;try with_reducible rfl
   try simp only [zv,zx]
   refine zZ (i:=4) (v:=?_) rfl (by kernel_rfl) hEp (by rfl) ?_ (HSZ.out _ z0.out) ?_
   rotate_left
   ·intro w h;go_simp;try with_reducible rfl
   try simp only [zv,zx]
   refine zZ (i:=5) (v:=?_) rfl (by kernel_rfl) hEp (by rfl) ?_ (HSZ.out _ z0.out) ?_
   rotate_left
   ·intro w h;go_simp;try with_reducible rfl
   try simp only [zv,zx]
   refine zZ (i:=6) (v:=?_) rfl (by kernel_rfl) hEp (by rfl) ?_ (HSZ.out _ z0.out) ?_
   rotate_left
   ·intro w h;go_simp;try with_reducible rfl
   try simp only [zv,zx]
   refine zZ (i:=7) (v:=?_) rfl (by kernel_rfl) hEp (by rfl) ?_ (HSZ.out _ z0.out) ?_
   rotate_left
   ·intro w h;go_simp;try with_reducible rfl
   try simp only [zv,zx]
   refine zZ (i:=8) (v:=?_) rfl (by kernel_rfl) hEp (by rfl) ?_ (HSZ.out _ z0.out) ?_
   rotate_left
   ·intro w h;go_simp;try with_reducible rfl
   try simp only [zv,zx]
   refine zY (i:=9) rfl (by kernel_rfl) hEp (by rfl) (HSZ.out _ z0.out) ?_
   try simp only [zv,zx]
   refine zY (i:=10) rfl (by kernel_rfl) hEp (by rfl) (HSZ.out _ z0.out) ?_
   try simp only [zv,zx]
   refine zY (i:=11) rfl (by kernel_rfl) hEp (by rfl) (HSZ.out _ z0.out) ?_
   try simp only [zv,zx]
   refine zY (i:=12) rfl (by kernel_rfl) hEp (by rfl) (HSZ.out _ z0.out) ?_
   try simp only [zv,zx]
   refine zY (i:=13) rfl (by kernel_rfl) hEp (by rfl) (HSZ.out _ z0.out) ?_
   try simp only [zv,zx]
   refine zY (i:=14) rfl (by kernel_rfl) hEp (by rfl) (HSZ.out _ z0.out) ?_
   try simp only [zv,zx]
   refine zY (i:=15) rfl (by kernel_rfl) hEp (by rfl) (HSZ.out _ z0.out) ?_
   try simp only [zv,zx]
   refine zY (i:=16) rfl (by kernel_rfl) hEp (by rfl) (HSZ.out _ z0.out) ?_
   try simp only [zv,zx]
   refine zY (i:=17) rfl (by kernel_rfl) hEp (by rfl) (HSZ.out _ z0.out) ?_
   try simp only [zv,zx]
   refine zY (i:=18) rfl (by kernel_rfl) hEp (by rfl) (HSZ.out _ z0.out) ?_
   try simp only [zv,zx]
   refine zY (i:=19) rfl (by kernel_rfl) hEp (by rfl) (HSZ.out _ z0.out) ?_
   try simp only [zv,zx]
   refine zY (i:=20) rfl (by kernel_rfl) hEp (by rfl) (HSZ.out _ z0.out) ?_
   try simp only [zv,zx]
   refine zZ (i:=21) (v:=?_) rfl (by kernel_rfl) hEp (by rfl) ?_ (HSZ.out _ z0.out) ?_
   rotate_left
   ·intro w h;go_simp;try with_reducible rfl
   try simp only [zv,zx]
   refine wpAnyH_done (by kernel_rfl) ?_ _
   gi_wp2
   exact HF.out _
  case pos=>
   by_cases hz:b0=0∧b1=0∧b2=0
   ·obtain ⟨rfl,rfl,rfl⟩:=hz
    have HT:Hid (chz k (0,0,0) (x0,x1,x2)=(x0,x1,x2)):=zy (by rw [HChE.out,if_pos ⟨hk, .inl rfl⟩])
    have HF:=zy (HTk.out _ z0.out HT.out)
    have d0:W2.cell? ⟨X,0,none⟩=some (.int .i64 x0):=z0.out.2.1.cell (i:=0) (v:= .int .i64 x0) rfl
    have d1:W2.cell? ⟨X,1,none⟩=some (.int .i64 x1):=z0.out.2.1.cell (i:=1) (v:= .int .i64 x1) rfl
    have d2:W2.cell? ⟨X,2,none⟩=some (.int .i64 x2):=z0.out.2.1.cell (i:=2) (v:= .int .i64 x2) rfl
    have y0:W2.cell? ⟨w.heap.size+4,0,none⟩=some (.int .i64 0):=z0.out.1.best.cell (i:=0) (v:= .int .i64 0) rfl
    have y1:W2.cell? ⟨w.heap.size+4,1,none⟩=some (.int .i64 0):=z0.out.1.best.cell (i:=1) (v:= .int .i64 0) rfl
    have y2:W2.cell? ⟨w.heap.size+4,2,none⟩=some (.int .i64 0):=z0.out.1.best.cell (i:=2) (v:= .int .i64 0) rfl
    have f0:W2.frozen? ⟨w.heap.size+4,0,none⟩=false:=z0.out.1.best.frozen 0
    have f1:W2.frozen? ⟨w.heap.size+4,1,none⟩=false:=z0.out.1.best.frozen 1
    have f2:W2.frozen? ⟨w.heap.size+4,2,none⟩=false:=z0.out.1.best.frozen 2
    clear HSt HTk HChE HT
    rcases hk with rfl|hk
    ·gi_wp2
     refine zRz (S:=fun wz=>wz.cell? ⟨w.heap.size,0,none⟩=some (.int .i64 (-1))∧wz.cell? ⟨w.heap.size+3,0,none⟩=some (.map (some (w.heap.size+2)))∧wz.cell? ⟨X,0,none⟩=some (.int .i64 x0)∧zAI wz (w.heap.size+4) 36 #[.int .i64 0, .int .i64 0, .int .i64 0]∧zAI wz X 36 #[.int .i64 x0, .int .i64 x1, .int .i64 x2]) (by kernel_rfl) (by kernel_rfl) (fun ⟨_,_,h⟩=>hEo ⟨_,_,h⟩) (HSZ.out _ z0.out) (fun hHeld=>?_)
     clear hHeld
     refine zZ (i:=0) (v:=?_) rfl (by kernel_rfl) hEp (by rfl) ?_ (HSZ.out _ z0.out) ?_
     rotate_left
     ·intro w h;go_simp;try with_reducible rfl
     try simp only [zv,zx]
     refine zZ (i:=1) (v:=?_) rfl (by kernel_rfl) hEp (by rfl) ?_ (HSZ.out _ z0.out) ?_
     rotate_left
     ·intro w h;go_simp;try with_reducible rfl
     try simp only [zv,zx]
     refine zZ (i:=2) (v:=?_) rfl (by kernel_rfl) hEp (by rfl) ?_ (HSZ.out _ z0.out) ?_
     rotate_left
     ·intro w h;go_simp;try with_reducible rfl
     try simp only [zv,zx]
     refine zY (i:=3) rfl (by kernel_rfl) hEp (by rfl) (HSZ.out _ z0.out) ?_
     try simp only [zv,zx]
     refine zY (i:=4) rfl (by kernel_rfl) hEp (by rfl) (HSZ.out _ z0.out) ?_
     try simp only [zv,zx]
     refine zY (i:=5) rfl (by kernel_rfl) hEp (by rfl) (HSZ.out _ z0.out) ?_
     try simp only [zv,zx]
     refine zY (i:=6) rfl (by kernel_rfl) hEp (by rfl) (HSZ.out _ z0.out) ?_
     try simp only [zv,zx]
     refine zZ (i:=7) (v:=?_) rfl (by kernel_rfl) hEp (by rfl) ?_ (HSZ.out _ z0.out) ?_
     rotate_left
     ·intro w h;go_simp;try with_reducible rfl
     try simp only [zv,zx]
     refine zZ (i:=8) (v:=?_) rfl (by kernel_rfl) hEp (by rfl) ?_ (HSZ.out _ z0.out) ?_
     rotate_left
     ·intro w h;go_simp;try with_reducible rfl
     try simp only [zv,zx]
     refine zYb (i:=9) rfl (by kernel_rfl) hEp (zXh (by rfl) _ _ rfl _ rfl _ _ _ (fun wz h=>h.2.2.2.1) Tryz.underlying36 rfl (by exact zT5)) (HSZ.out _ z0.out) ?_
     try simp only [zv,zx]
     refine zZ (i:=10) (v:=?_) rfl (by kernel_rfl) hEp (by rfl) ?_ (HSZ.out _ z0.out) ?_
     rotate_left
     ·intro w h;go_simp;try with_reducible rfl
     try simp only [zv,zx]
     refine zZ (i:=11) (v:=?_) rfl (by kernel_rfl) hEp (by rfl) ?_ (HSZ.out _ z0.out) ?_
     rotate_left
     ·intro w h;go_simp;try with_reducible rfl
     try simp only [zv,zx]
     refine zZ (i:=12) (v:=?_) rfl (by kernel_rfl) hEp (by rfl) ?_ (HSZ.out _ z0.out) ?_
     rotate_left
     ·intro w h;go_simp;try with_reducible rfl
     try simp only [zv,zx]
     refine zY (i:=13) rfl (by kernel_rfl) hEp (by rfl) (HSZ.out _ z0.out) ?_
     try simp only [zv,zx]
     refine zY (i:=14) rfl (by kernel_rfl) hEp (by rfl) (HSZ.out _ z0.out) ?_
     try simp only [zv,zx]
     refine zY (i:=15) rfl (by kernel_rfl) hEp (by rfl) (HSZ.out _ z0.out) ?_
     try simp only [zv,zx]
     refine zY (i:=16) rfl (by kernel_rfl) hEp (by rfl) (HSZ.out _ z0.out) ?_
     try simp only [zv,zx]
     refine zY (i:=17) rfl (by kernel_rfl) hEp (by rfl) (HSZ.out _ z0.out) ?_
     try simp only [zv,zx]
     refine zY (i:=18) rfl (by kernel_rfl) hEp (by rfl) (HSZ.out _ z0.out) ?_
     try simp only [zv,zx]
     refine zY (i:=19) rfl (by kernel_rfl) hEp (by rfl) (HSZ.out _ z0.out) ?_
     try simp only [zv,zx]
     refine zZ (i:=20) (v:=?_) rfl (by kernel_rfl) hEp (by rfl) ?_ (HSZ.out _ z0.out) ?_
     rotate_left
     ·intro w h;go_simp;try with_reducible rfl
     try simp only [zv,zx]
     refine zZ (i:=21) (v:=?_) rfl (by kernel_rfl) hEp (by rfl) ?_ (HSZ.out _ z0.out) ?_
     rotate_left
     ·intro w h;go_simp;try with_reducible rfl
     try simp only [zv,zx]
     refine wpAnyH_done (by kernel_rfl) ?_ _
     gi_wp2
     exact HF.out _
    ·by_cases hk1:k= -1
     ·subst hk1
      gi_wp2
      refine zRz (S:=fun wz=>wz.cell? ⟨w.heap.size,0,none⟩=some (.int .i64 (-1))∧wz.cell? ⟨w.heap.size+3,0,none⟩=some (.map (some (w.heap.size+2)))∧wz.cell? ⟨X,0,none⟩=some (.int .i64 x0)∧zAI wz (w.heap.size+4) 36 #[.int .i64 0, .int .i64 0, .int .i64 0]∧zAI wz X 36 #[.int .i64 x0, .int .i64 x1, .int .i64 x2]) (by kernel_rfl) (by kernel_rfl) (fun ⟨_,_,h⟩=>hEo ⟨_,_,h⟩) (HSZ.out _ z0.out) (fun hHeld=>?_)
      clear hHeld
      refine zZ (i:=0) (v:=?_) rfl (by kernel_rfl) hEp (by rfl) ?_ (HSZ.out _ z0.out) ?_
      rotate_left
      ·intro w h;go_simp;try with_reducible rfl
      try simp only [zv,zx]
      refine zZ (i:=1) (v:=?_) rfl (by kernel_rfl) hEp (by rfl) ?_ (HSZ.out _ z0.out) ?_
      rotate_left
      ·intro w h;go_simp;try with_reducible rfl
      try simp only [zv,zx]
      refine zZ (i:=2) (v:=?_) rfl (by kernel_rfl) hEp (by rfl) ?_ (HSZ.out _ z0.out) ?_
      rotate_left
      ·intro w h;go_simp;try with_reducible rfl
      try simp only [zv,zx]
      refine zY (i:=3) rfl (by kernel_rfl) hEp (by rfl) (HSZ.out _ z0.out) ?_
      try simp only [zv,zx]
      refine zY (i:=4) rfl (by kernel_rfl) hEp (by rfl) (HSZ.out _ z0.out) ?_
      try simp only [zv,zx]
      refine zY (i:=5) rfl (by kernel_rfl) hEp (by rfl) (HSZ.out _ z0.out) ?_
      try simp only [zv,zx]
      refine zY (i:=6) rfl (by kernel_rfl) hEp (by rfl) (HSZ.out _ z0.out) ?_
      try simp only [zv,zx]
      refine zZ (i:=7) (v:=?_) rfl (by kernel_rfl) hEp (by rfl) ?_ (HSZ.out _ z0.out) ?_
      rotate_left
      ·intro w h;go_simp;try with_reducible rfl
      try simp only [zv,zx]
      refine zZ (i:=8) (v:=?_) rfl (by kernel_rfl) hEp (by rfl) ?_ (HSZ.out _ z0.out) ?_
      rotate_left
      ·intro w h;go_simp;try with_reducible rfl
      try simp only [zv,zx]
      refine zYb (i:=9) rfl (by kernel_rfl) hEp (zXh (by rfl) _ _ rfl _ rfl _ _ _ (fun wz h=>h.2.2.2.1) Tryz.underlying36 rfl (by exact zT5)) (HSZ.out _ z0.out) ?_
      try simp only [zv,zx]
      refine zZ (i:=10) (v:=?_) rfl (by kernel_rfl) hEp (by rfl) ?_ (HSZ.out _ z0.out) ?_
      rotate_left
      ·intro w h;go_simp;try with_reducible rfl
      try simp only [zv,zx]
      refine zZ (i:=11) (v:=?_) rfl (by kernel_rfl) hEp (by rfl) ?_ (HSZ.out _ z0.out) ?_
      rotate_left
      ·intro w h;go_simp;try with_reducible rfl
      try simp only [zv,zx]
      refine zZ (i:=12) (v:=?_) rfl (by kernel_rfl) hEp (by rfl) ?_ (HSZ.out _ z0.out) ?_
      rotate_left
      ·intro w h;go_simp;try with_reducible rfl
      try simp only [zv,zx]
      refine zY (i:=13) rfl (by kernel_rfl) hEp (by rfl) (HSZ.out _ z0.out) ?_
      try simp only [zv,zx]
      refine zY (i:=14) rfl (by kernel_rfl) hEp (by rfl) (HSZ.out _ z0.out) ?_
      try simp only [zv,zx]
      refine zY (i:=15) rfl (by kernel_rfl) hEp (by rfl) (HSZ.out _ z0.out) ?_
      try simp only [zv,zx]
      refine zY (i:=16) rfl (by kernel_rfl) hEp (by rfl) (HSZ.out _ z0.out) ?_
      try simp only [zv,zx]
      refine zY (i:=17) rfl (by kernel_rfl) hEp (by rfl) (HSZ.out _ z0.out) ?_
      try simp only [zv,zx]
      refine zY (i:=18) rfl (by kernel_rfl) hEp (by rfl) (HSZ.out _ z0.out) ?_
      try simp only [zv,zx]
      refine zY (i:=19) rfl (by kernel_rfl) hEp (by rfl) (HSZ.out _ z0.out) ?_
      try simp only [zv,zx]
      refine zZ (i:=20) (v:=?_) rfl (by kernel_rfl) hEp (by rfl) ?_ (HSZ.out _ z0.out) ?_
      rotate_left
      ·intro w h;go_simp;try with_reducible rfl
      try simp only [zv,zx]
      refine zZ (i:=21) (v:=?_) rfl (by kernel_rfl) hEp (by rfl) ?_ (HSZ.out _ z0.out) ?_
      rotate_left
      ·intro w h;go_simp;try with_reducible rfl
      try simp only [zv,zx]
      refine wpAnyH_done (by kernel_rfl) ?_ _
      gi_wp2
      exact HF.out _
     have hk1:(k == -1)=false:=by rw [beq_eq_false_iff_ne];exact hk1
     subst hk
     gi_wp2
     refine zRz (S:=fun wz=>wz.cell? ⟨w.heap.size,0,none⟩=some (.int .i64 k)∧wz.cell? ⟨w.heap.size+3,0,none⟩=some (.map (some (w.heap.size+2)))∧wz.cell? ⟨X,0,none⟩=some (.int .i64 k)∧zAI wz (w.heap.size+4) 36 #[.int .i64 0, .int .i64 0, .int .i64 0]∧zAI wz X 36 #[.int .i64 k, .int .i64 x1, .int .i64 x2]) (by kernel_rfl) (by kernel_rfl) (fun ⟨_,_,h⟩=>hEo ⟨_,_,h⟩) (HSZ.out _ z0.out) (fun hHeld=>?_)
     clear hHeld
     refine zZ (i:=0) (v:=?_) rfl (by kernel_rfl) hEp (by rfl) ?_ (HSZ.out _ z0.out) ?_
     rotate_left
     ·intro w h;go_simp;try with_reducible rfl
     try simp only [zv,zx]
     refine zZ (i:=1) (v:=?_) rfl (by kernel_rfl) hEp (by rfl) ?_ (HSZ.out _ z0.out) ?_
     rotate_left
     ·intro w h;go_simp;try with_reducible rfl
     try simp only [zv,zx]
     refine zZ (i:=2) (v:=?_) rfl (by kernel_rfl) hEp (by rfl) ?_ (HSZ.out _ z0.out) ?_
     rotate_left
     ·intro w h;go_simp;try with_reducible rfl
     try simp only [zv,zx]
     refine zZ (i:=3) (v:=?_) rfl (by kernel_rfl) hEp (by rfl) ?_ (HSZ.out _ z0.out) ?_
     rotate_left
     ·intro w h;go_simp;try with_reducible rfl
     try simp only [zv,zx]
     refine zZ (i:=4) (v:=?_) rfl (by kernel_rfl) hEp (by rfl) ?_ (HSZ.out _ z0.out) ?_
     rotate_left
     ·intro w h;go_simp;try with_reducible rfl
     try simp only [zv,zx]
     refine zZ (i:=5) (v:=?_) rfl (by kernel_rfl) hEp (by rfl) ?_ (HSZ.out _ z0.out) ?_
     rotate_left
     ·intro w h;go_simp;try with_reducible rfl
     try simp only [zv,zx]
     refine zZ (i:=6) (v:=?_) rfl (by kernel_rfl) hEp (by rfl) ?_ (HSZ.out _ z0.out) ?_
     rotate_left
     ·intro w h;go_simp;try with_reducible rfl
     try simp only [zv,zx]
     refine zZ (i:=7) (v:=?_) rfl (by kernel_rfl) hEp (by rfl) ?_ (HSZ.out _ z0.out) ?_
     rotate_left
     ·intro w h;go_simp;try with_reducible rfl
     try simp only [zv,zx]
     refine zZ (i:=8) (v:=?_) rfl (by kernel_rfl) hEp (by rfl) ?_ (HSZ.out _ z0.out) ?_
     rotate_left
     ·intro w h;go_simp;try with_reducible rfl
     try simp only [zv,zx]
     refine zYb (i:=9) rfl (by kernel_rfl) hEp (zXh (by rfl) _ _ rfl _ rfl _ _ _ (fun wz h=>h.2.2.2.1) Tryz.underlying36 rfl (by exact zT5)) (HSZ.out _ z0.out) ?_
     try simp only [zv,zx]
     refine zZ (i:=10) (v:=?_) rfl (by kernel_rfl) hEp (by rfl) ?_ (HSZ.out _ z0.out) ?_
     rotate_left
     ·intro w h;go_simp;try with_reducible rfl
     try simp only [zv,zx]
     refine zZ (i:=11) (v:=?_) rfl (by kernel_rfl) hEp (by rfl) ?_ (HSZ.out _ z0.out) ?_
     rotate_left
     ·intro w h;go_simp;try with_reducible rfl
     try simp only [zv,zx]
     refine zZ (i:=12) (v:=?_) rfl (by kernel_rfl) hEp (by rfl) ?_ (HSZ.out _ z0.out) ?_
     rotate_left
     ·intro w h;go_simp;try with_reducible rfl
     try simp only [zv,zx]
     refine zY (i:=13) rfl (by kernel_rfl) hEp (by rfl) (HSZ.out _ z0.out) ?_
     try simp only [zv,zx]
     refine zY (i:=14) rfl (by kernel_rfl) hEp (by rfl) (HSZ.out _ z0.out) ?_
     try simp only [zv,zx]
     refine zY (i:=15) rfl (by kernel_rfl) hEp (by rfl) (HSZ.out _ z0.out) ?_
     try simp only [zv,zx]
     refine zY (i:=16) rfl (by kernel_rfl) hEp (by rfl) (HSZ.out _ z0.out) ?_
     try simp only [zv,zx]
     refine zY (i:=17) rfl (by kernel_rfl) hEp (by rfl) (HSZ.out _ z0.out) ?_
     try simp only [zv,zx]
     refine zY (i:=18) rfl (by kernel_rfl) hEp (by rfl) (HSZ.out _ z0.out) ?_
     try simp only [zv,zx]
     refine zY (i:=19) rfl (by kernel_rfl) hEp (by rfl) (HSZ.out _ z0.out) ?_
     try simp only [zv,zx]
     refine zZ (i:=20) (v:=?_) rfl (by kernel_rfl) hEp (by rfl) ?_ (HSZ.out _ z0.out) ?_
     rotate_left
     ·intro w h;go_simp;try with_reducible rfl
     try simp only [zv,zx]
     refine zZ (i:=21) (v:=?_) rfl (by kernel_rfl) hEp (by rfl) ?_ (HSZ.out _ z0.out) ?_
     rotate_left
     ·intro w h;go_simp;try with_reducible rfl
     try simp only [zv,zx]
     refine wpAnyH_done (by kernel_rfl) ?_ _
     gi_wp2
     exact HF.out _
   ·have hcan:CanP (b0,b1,b2):=HCb.out.resolve_left (fun h=>hz (by
     injection h with h1 h2
     injection h2 with h2 h3
     exact ⟨h1,h2,h3⟩))
    have HB:=zy (HB.out hcan)
    have heq2:(b0 == 0 && b1 == 0 && b2 == 0)=false:=by
     rw [Bool.eq_false_iff]
     intro h
     simp only [Bool.and_eq_true,beq_iff_eq] at h
     exact hz ⟨h.1.1,h.1.2,h.2⟩
    rw [heq2] at heq
    have hzz: ¬(b0,b1,b2)=((0:Int),(0:Int),(0:Int)):=fun h=>hz (by
     injection h with h1 h2
     injection h2 with h2 h3
     exact ⟨h1,h2,h3⟩)
    by_cases hlt:cx<cb
    ·have td:decide (cx<cb)=true:=decide_eq_true hlt
     have HT:Hid (chz k (b0,b1,b2) (x0,x1,x2)=(x0,x1,x2)):=zy (by rw [HChE.out,if_pos ⟨hk, .inr hlt⟩])
     clear HSt HChE hz hzz heq2 hcan HCb
     by_cases hk1:k= -1
     ·subst hk1
      clear hk
      gi_wp2
      refine zRz (S:=fun wz=>wz.cell? ⟨w.heap.size,0,none⟩=some (.int .i64 (-1))∧wz.cell? ⟨w.heap.size+3,0,none⟩=some (.map (some (w.heap.size+2)))∧wz.cell? ⟨X,0,none⟩=some (.int .i64 x0)∧zAI wz (w.heap.size+4) 36 #[.int .i64 b0, .int .i64 b1, .int .i64 b2]∧zAI wz X 36 #[.int .i64 x0, .int .i64 x1, .int .i64 x2]) (by kernel_rfl) (by kernel_rfl) (fun ⟨_,_,h⟩=>hEo ⟨_,_,h⟩) (HSZ.out _ z0.out) (fun hHeld=>?_)
      clear hHeld
      refine zZ (i:=0) (v:=?_) rfl (by kernel_rfl) hEp (by rfl) ?_ (HSZ.out _ z0.out) ?_
      rotate_left
      ·intro w h;go_simp;try with_reducible rfl
      try simp only [zv,zx]
      refine zZ (i:=1) (v:=?_) rfl (by kernel_rfl) hEp (by rfl) ?_ (HSZ.out _ z0.out) ?_
      rotate_left
      ·intro w h;go_simp;try with_reducible rfl
      try simp only [zv,zx]
      refine zZ (i:=2) (v:=?_) rfl (by kernel_rfl) hEp (by rfl) ?_ (HSZ.out _ z0.out) ?_
      rotate_left
      ·intro w h;go_simp;try with_reducible rfl
      try simp only [zv,zx]
      refine zY (i:=3) rfl (by kernel_rfl) hEp (by rfl) (HSZ.out _ z0.out) ?_
      try simp only [zv,zx]
      refine zY (i:=4) rfl (by kernel_rfl) hEp (by rfl) (HSZ.out _ z0.out) ?_
      try simp only [zv,zx]
      refine zY (i:=5) rfl (by kernel_rfl) hEp (by rfl) (HSZ.out _ z0.out) ?_
      try simp only [zv,zx]
      refine zY (i:=6) rfl (by kernel_rfl) hEp (by rfl) (HSZ.out _ z0.out) ?_
      try simp only [zv,zx]
      refine zZ (i:=7) (v:=?_) rfl (by kernel_rfl) hEp (by rfl) ?_ (HSZ.out _ z0.out) ?_
      rotate_left
      ·intro w h;go_simp;try with_reducible rfl
      try simp only [zv,zx]
      refine zZ (i:=8) (v:=?_) rfl (by kernel_rfl) hEp (by rfl) ?_ (HSZ.out _ z0.out) ?_
      rotate_left
      ·intro w h;go_simp;try with_reducible rfl
      try simp only [zv,zx]
      refine zYb (i:=9) rfl (by kernel_rfl) hEp (zXh (by rfl) _ _ rfl _ rfl _ _ _ (fun wz h=>h.2.2.2.1) Tryz.underlying36 rfl (by exact zT5)) (HSZ.out _ z0.out) ?_
      try simp only [zv,zx]
      refine zZ (i:=10) (v:=?_) rfl (by kernel_rfl) hEp (by rfl) ?_ (HSZ.out _ z0.out) ?_
      rotate_left
      ·intro w h;go_simp;try with_reducible rfl
      try simp only [zv,zx]
      refine zZ (i:=11) (v:=?_) rfl (by kernel_rfl) hEp (by rfl) ?_ (HSZ.out _ z0.out) ?_
      rotate_left
      ·intro w h;go_simp;try with_reducible rfl
      try simp only [zv,zx]
      refine zZ (i:=12) (v:=?_) rfl (by kernel_rfl) hEp (by rfl) ?_ (HSZ.out _ z0.out) ?_
      rotate_left
      ·intro w h;go_simp;try with_reducible rfl
      try simp only [zv,zx]
      refine zZ (i:=13) (v:=?_) rfl (by kernel_rfl) hEp (by rfl) ?_ (HSZ.out _ z0.out) ?_
      rotate_left
      ·intro w h;go_simp;try with_reducible rfl
      try simp only [zv,zx]
      refine zYb (i:=14) rfl (by kernel_rfl) hEp (zXh (by rfl) _ _ rfl _ rfl _ _ _ (fun wz h=>h.2.2.2.2) Tryz.underlying36 rfl (by exact zT5)) (HSZ.out _ z0.out) ?_
      try simp only [zv,zx]
      refine zZ (i:=16) (v:=?_) rfl (by kernel_rfl) hEp (by rfl) ?_ (HSZ.out _ z0.out) ?_
      rotate_left
      ·intro w h;go_simp;try with_reducible rfl
      try simp only [zv,zx]
      refine zYb (i:=17) rfl (by kernel_rfl) hEp (zXh (by rfl) _ _ rfl _ rfl _ _ _ (fun wz h=>h.2.2.2.1) Tryz.underlying36 rfl (by exact zT5)) (HSZ.out _ z0.out) ?_
      try simp only [zv,zx]
      refine wpAnyH_ready (rs:= [15]) (by kernel_rfl) (by simp) ?_
      refine AllReadyH.cons rfl (fun K hK=>?_) AllReadyH.nil
      try simp only [zx]
      rw [if_pos (by rfl)]
      go_wp2_with (go_at_call 56;refine (HX.out _ z0.out).mono ?_;rintro e w8 ⟨rfl,z8⟩)
      have z8:=zy z8
      refine hK.out _ _ ((HSZ.out _ z8.out)) (fun _=>?_)
      clear hK K
      try simp only [zv,zx]
      refine wpAnyH_ready (rs:= [18]) (by kernel_rfl) (by simp) ?_
      refine AllReadyH.cons rfl (fun K hK=>?_) AllReadyH.nil
      try simp only [zx]
      rw [if_pos (by rfl)]
      go_wp2_with (go_at_call 56;refine (HB.out _ z8.out).mono ?_;rintro e w9 ⟨rfl,z9⟩)
      have z9:=zy z9
      refine hK.out _ _ ((HSZ.out _ z9.out)) (fun _=>?_)
      clear hK K
      try simp only [zv,zx]
      refine zZ (i:=19) (v:=?_) rfl (by kernel_rfl) hEp (by rfl) ?_ (HSZ.out _ z9.out) ?_
      rotate_left
      ·intro w h;go_simp;try with_reducible rfl
      try simp only [zv,zx]
      refine zZ (i:=20) (v:=?_) rfl (by kernel_rfl) hEp (by rfl) ?_ (HSZ.out _ z9.out) ?_
      rotate_left
      ·intro w h;go_simp;try with_reducible rfl
      try simp only [zv,zx]
      refine zZ (i:=21) (v:=?_) rfl (by kernel_rfl) hEp (by rfl) ?_ (HSZ.out _ z9.out) ?_
      rotate_left
      ·intro w h;go_simp;try with_reducible rfl
      try simp only [zv,zx]
      refine wpAnyH_done (by kernel_rfl) ?_ _
      have HF:=zy (HTk.out _ z9.out HT.out)
      have d0:=z9.out.2.1.cell (i:=0) (v:= .int .i64 x0) rfl
      have d1:=z9.out.2.1.cell (i:=1) (v:= .int .i64 x1) rfl
      have d2:=z9.out.2.1.cell (i:=2) (v:= .int .i64 x2) rfl
      have y0:=z9.out.1.best.cell (i:=0) (v:= .int .i64 b0) rfl
      have y1:=z9.out.1.best.cell (i:=1) (v:= .int .i64 b1) rfl
      have y2:=z9.out.1.best.cell (i:=2) (v:= .int .i64 b2) rfl
      have f0:=z9.out.1.best.frozen 0
      have f1:=z9.out.1.best.frozen 1
      have f2:=z9.out.1.best.frozen 2
      gi_wp2
      exact HF.out _
     ·have hk:=hk.resolve_left hk1
      have hk1:(k == -1)=false:=by rw [beq_eq_false_iff_ne];exact hk1
      subst hk
      gi_wp2
      refine zRz (S:=fun wz=>wz.cell? ⟨w.heap.size,0,none⟩=some (.int .i64 k)∧wz.cell? ⟨w.heap.size+3,0,none⟩=some (.map (some (w.heap.size+2)))∧wz.cell? ⟨X,0,none⟩=some (.int .i64 k)∧zAI wz (w.heap.size+4) 36 #[.int .i64 b0, .int .i64 b1, .int .i64 b2]∧zAI wz X 36 #[.int .i64 k, .int .i64 x1, .int .i64 x2]) (by kernel_rfl) (by kernel_rfl) (fun ⟨_,_,h⟩=>hEo ⟨_,_,h⟩) (HSZ.out _ z0.out) (fun hHeld=>?_)
      clear hHeld
      refine zZ (i:=0) (v:=?_) rfl (by kernel_rfl) hEp (by rfl) ?_ (HSZ.out _ z0.out) ?_
      rotate_left
      ·intro w h;go_simp;try with_reducible rfl
      try simp only [zv,zx]
      refine zZ (i:=1) (v:=?_) rfl (by kernel_rfl) hEp (by rfl) ?_ (HSZ.out _ z0.out) ?_
      rotate_left
      ·intro w h;go_simp;try with_reducible rfl
      try simp only [zv,zx]
      refine zZ (i:=2) (v:=?_) rfl (by kernel_rfl) hEp (by rfl) ?_ (HSZ.out _ z0.out) ?_
      rotate_left
      ·intro w h;go_simp;try with_reducible rfl
      try simp only [zv,zx]
      refine zZ (i:=3) (v:=?_) rfl (by kernel_rfl) hEp (by rfl) ?_ (HSZ.out _ z0.out) ?_
      rotate_left
      ·intro w h;go_simp;try with_reducible rfl
      try simp only [zv,zx]
      refine zZ (i:=4) (v:=?_) rfl (by kernel_rfl) hEp (by rfl) ?_ (HSZ.out _ z0.out) ?_
      rotate_left
      ·intro w h;go_simp;try with_reducible rfl
      try simp only [zv,zx]
      refine zZ (i:=5) (v:=?_) rfl (by kernel_rfl) hEp (by rfl) ?_ (HSZ.out _ z0.out) ?_
      rotate_left
      ·intro w h;go_simp;try with_reducible rfl
      try simp only [zv,zx]
      refine zZ (i:=6) (v:=?_) rfl (by kernel_rfl) hEp (by rfl) ?_ (HSZ.out _ z0.out) ?_
      rotate_left
      ·intro w h;go_simp;try with_reducible rfl
      try simp only [zv,zx]
      refine zZ (i:=7) (v:=?_) rfl (by kernel_rfl) hEp (by rfl) ?_ (HSZ.out _ z0.out) ?_
      rotate_left
      ·intro w h;go_simp;try with_reducible rfl
      try simp only [zv,zx]
      refine zZ (i:=8) (v:=?_) rfl (by kernel_rfl) hEp (by rfl) ?_ (HSZ.out _ z0.out) ?_
      rotate_left
      ·intro w h;go_simp;try with_reducible rfl
      try simp only [zv,zx]
      refine zYb (i:=9) rfl (by kernel_rfl) hEp (zXh (by rfl) _ _ rfl _ rfl _ _ _ (fun wz h=>h.2.2.2.1) Tryz.underlying36 rfl (by exact zT5)) (HSZ.out _ z0.out) ?_
      try simp only [zv,zx]
      refine zZ (i:=10) (v:=?_) rfl (by kernel_rfl) hEp (by rfl) ?_ (HSZ.out _ z0.out) ?_
      rotate_left
      ·intro w h;go_simp;try with_reducible rfl
      try simp only [zv,zx]
      refine zZ (i:=11) (v:=?_) rfl (by kernel_rfl) hEp (by rfl) ?_ (HSZ.out _ z0.out) ?_
      rotate_left
      ·intro w h;go_simp;try with_reducible rfl
      try simp only [zv,zx]
      refine zZ (i:=12) (v:=?_) rfl (by kernel_rfl) hEp (by rfl) ?_ (HSZ.out _ z0.out) ?_
      rotate_left
      ·intro w h;go_simp;try with_reducible rfl
      try simp only [zv,zx]
      refine zZ (i:=13) (v:=?_) rfl (by kernel_rfl) hEp (by rfl) ?_ (HSZ.out _ z0.out) ?_
      rotate_left
      ·intro w h;go_simp;try with_reducible rfl
      try simp only [zv,zx]
      refine zYb (i:=14) rfl (by kernel_rfl) hEp (zXh (by rfl) _ _ rfl _ rfl _ _ _ (fun wz h=>h.2.2.2.2) Tryz.underlying36 rfl (by exact zT5)) (HSZ.out _ z0.out) ?_
      try simp only [zv,zx]
      refine zZ (i:=16) (v:=?_) rfl (by kernel_rfl) hEp (by rfl) ?_ (HSZ.out _ z0.out) ?_
      rotate_left
      ·intro w h;go_simp;try with_reducible rfl
      try simp only [zv,zx]
      refine zYb (i:=17) rfl (by kernel_rfl) hEp (zXh (by rfl) _ _ rfl _ rfl _ _ _ (fun wz h=>h.2.2.2.1) Tryz.underlying36 rfl (by exact zT5)) (HSZ.out _ z0.out) ?_
      try simp only [zv,zx]
      refine wpAnyH_ready (rs:= [15]) (by kernel_rfl) (by simp) ?_
      refine AllReadyH.cons rfl (fun K hK=>?_) AllReadyH.nil
      try simp only [zx]
      rw [if_pos (by rfl)]
      go_wp2_with (go_at_call 56;refine (HX.out _ z0.out).mono ?_;rintro e w8 ⟨rfl,z8⟩)
      have z8:=zy z8
      refine hK.out _ _ ((HSZ.out _ z8.out)) (fun _=>?_)
      clear hK K
      try simp only [zv,zx]
      refine wpAnyH_ready (rs:= [18]) (by kernel_rfl) (by simp) ?_
      refine AllReadyH.cons rfl (fun K hK=>?_) AllReadyH.nil
      try simp only [zx]
      rw [if_pos (by rfl)]
      go_wp2_with (go_at_call 56;refine (HB.out _ z8.out).mono ?_;rintro e w9 ⟨rfl,z9⟩)
      have z9:=zy z9
      refine hK.out _ _ ((HSZ.out _ z9.out)) (fun _=>?_)
      clear hK K
      try simp only [zv,zx]
      refine zZ (i:=19) (v:=?_) rfl (by kernel_rfl) hEp (by rfl) ?_ (HSZ.out _ z9.out) ?_
      rotate_left
      ·intro w h;go_simp;try with_reducible rfl
      try simp only [zv,zx]
      refine zZ (i:=20) (v:=?_) rfl (by kernel_rfl) hEp (by rfl) ?_ (HSZ.out _ z9.out) ?_
      rotate_left
      ·intro w h;go_simp;try with_reducible rfl
      try simp only [zv,zx]
      refine zZ (i:=21) (v:=?_) rfl (by kernel_rfl) hEp (by rfl) ?_ (HSZ.out _ z9.out) ?_
      rotate_left
      ·intro w h;go_simp;try with_reducible rfl
      try simp only [zv,zx]
      refine wpAnyH_done (by kernel_rfl) ?_ _
      have HF:=zy (HTk.out _ z9.out HT.out)
      have d0:=z9.out.2.1.cell (i:=0) (v:= .int .i64 k) rfl
      have d1:=z9.out.2.1.cell (i:=1) (v:= .int .i64 x1) rfl
      have d2:=z9.out.2.1.cell (i:=2) (v:= .int .i64 x2) rfl
      have y0:=z9.out.1.best.cell (i:=0) (v:= .int .i64 b0) rfl
      have y1:=z9.out.1.best.cell (i:=1) (v:= .int .i64 b1) rfl
      have y2:=z9.out.1.best.cell (i:=2) (v:= .int .i64 b2) rfl
      have f0:=z9.out.1.best.frozen 0
      have f1:=z9.out.1.best.frozen 1
      have f2:=z9.out.1.best.frozen 2
      gi_wp2
      exact HF.out _
    ·have td:decide (cx<cb)=false:=decide_eq_false hlt
     have HT:Hid (chz k (b0,b1,b2) (x0,x1,x2)=(b0,b1,b2)):=zy (by rw [HChE.out,if_neg (fun h=>h.2.elim hzz hlt)])
     clear HTk HChE hz hzz heq2 hcan HCb
     by_cases hk1:k= -1
     ·subst hk1
      clear hk
      gi_wp2
      refine zRz (S:=fun wz=>wz.cell? ⟨w.heap.size,0,none⟩=some (.int .i64 (-1))∧wz.cell? ⟨w.heap.size+3,0,none⟩=some (.map (some (w.heap.size+2)))∧wz.cell? ⟨X,0,none⟩=some (.int .i64 x0)∧zAI wz (w.heap.size+4) 36 #[.int .i64 b0, .int .i64 b1, .int .i64 b2]∧zAI wz X 36 #[.int .i64 x0, .int .i64 x1, .int .i64 x2]) (by kernel_rfl) (by kernel_rfl) (fun ⟨_,_,h⟩=>hEo ⟨_,_,h⟩) (HSZ.out _ z0.out) (fun hHeld=>?_)
      clear hHeld
      refine zZ (i:=0) (v:=?_) rfl (by kernel_rfl) hEp (by rfl) ?_ (HSZ.out _ z0.out) ?_
      rotate_left
      ·intro w h;go_simp;try with_reducible rfl
      try simp only [zv,zx]
      refine zZ (i:=1) (v:=?_) rfl (by kernel_rfl) hEp (by rfl) ?_ (HSZ.out _ z0.out) ?_
      rotate_left
      ·intro w h;go_simp;try with_reducible rfl
      try simp only [zv,zx]
      refine zZ (i:=2) (v:=?_) rfl (by kernel_rfl) hEp (by rfl) ?_ (HSZ.out _ z0.out) ?_
      rotate_left
      ·intro w h;go_simp;try with_reducible rfl
      try simp only [zv,zx]
      refine zY (i:=3) rfl (by kernel_rfl) hEp (by rfl) (HSZ.out _ z0.out) ?_
      try simp only [zv,zx]
      refine zY (i:=4) rfl (by kernel_rfl) hEp (by rfl) (HSZ.out _ z0.out) ?_
      try simp only [zv,zx]
      refine zY (i:=5) rfl (by kernel_rfl) hEp (by rfl) (HSZ.out _ z0.out) ?_
      try simp only [zv,zx]
      refine zY (i:=6) rfl (by kernel_rfl) hEp (by rfl) (HSZ.out _ z0.out) ?_
      try simp only [zv,zx]
      refine zZ (i:=7) (v:=?_) rfl (by kernel_rfl) hEp (by rfl) ?_ (HSZ.out _ z0.out) ?_
      rotate_left
      ·intro w h;go_simp;try with_reducible rfl
      try simp only [zv,zx]
      refine zZ (i:=8) (v:=?_) rfl (by kernel_rfl) hEp (by rfl) ?_ (HSZ.out _ z0.out) ?_
      rotate_left
      ·intro w h;go_simp;try with_reducible rfl
      try simp only [zv,zx]
      refine zYb (i:=9) rfl (by kernel_rfl) hEp (zXh (by rfl) _ _ rfl _ rfl _ _ _ (fun wz h=>h.2.2.2.1) Tryz.underlying36 rfl (by exact zT5)) (HSZ.out _ z0.out) ?_
      try simp only [zv,zx]
      refine zZ (i:=10) (v:=?_) rfl (by kernel_rfl) hEp (by rfl) ?_ (HSZ.out _ z0.out) ?_
      rotate_left
      ·intro w h;go_simp;try with_reducible rfl
      try simp only [zv,zx]
      refine zZ (i:=11) (v:=?_) rfl (by kernel_rfl) hEp (by rfl) ?_ (HSZ.out _ z0.out) ?_
      rotate_left
      ·intro w h;go_simp;try with_reducible rfl
      try simp only [zv,zx]
      refine zZ (i:=12) (v:=?_) rfl (by kernel_rfl) hEp (by rfl) ?_ (HSZ.out _ z0.out) ?_
      rotate_left
      ·intro w h;go_simp;try with_reducible rfl
      try simp only [zv,zx]
      refine zZ (i:=13) (v:=?_) rfl (by kernel_rfl) hEp (by rfl) ?_ (HSZ.out _ z0.out) ?_
      rotate_left
      ·intro w h;go_simp;try with_reducible rfl
      try simp only [zv,zx]
      refine zYb (i:=14) rfl (by kernel_rfl) hEp (zXh (by rfl) _ _ rfl _ rfl _ _ _ (fun wz h=>h.2.2.2.2) Tryz.underlying36 rfl (by exact zT5)) (HSZ.out _ z0.out) ?_
      try simp only [zv,zx]
      refine zZ (i:=16) (v:=?_) rfl (by kernel_rfl) hEp (by rfl) ?_ (HSZ.out _ z0.out) ?_
      rotate_left
      ·intro w h;go_simp;try with_reducible rfl
      try simp only [zv,zx]
      refine zYb (i:=17) rfl (by kernel_rfl) hEp (zXh (by rfl) _ _ rfl _ rfl _ _ _ (fun wz h=>h.2.2.2.1) Tryz.underlying36 rfl (by exact zT5)) (HSZ.out _ z0.out) ?_
      try simp only [zv,zx]
      refine wpAnyH_ready (rs:= [15]) (by kernel_rfl) (by simp) ?_
      refine AllReadyH.cons rfl (fun K hK=>?_) AllReadyH.nil
      try simp only [zx]
      rw [if_pos (by rfl)]
      go_wp2_with (go_at_call 56;refine (HX.out _ z0.out).mono ?_;rintro e w8 ⟨rfl,z8⟩)
      have z8:=zy z8
      refine hK.out _ _ ((HSZ.out _ z8.out)) (fun _=>?_)
      clear hK K
      try simp only [zv,zx]
      refine wpAnyH_ready (rs:= [18]) (by kernel_rfl) (by simp) ?_
      refine AllReadyH.cons rfl (fun K hK=>?_) AllReadyH.nil
      try simp only [zx]
      rw [if_pos (by rfl)]
      go_wp2_with (go_at_call 56;refine (HB.out _ z8.out).mono ?_;rintro e w9 ⟨rfl,z9⟩)
      have z9:=zy z9
      refine hK.out _ _ ((HSZ.out _ z9.out)) (fun _=>?_)
      clear hK K
      try simp only [zv,zx]
      refine zZ (i:=19) (v:=?_) rfl (by kernel_rfl) hEp (by rfl) ?_ (HSZ.out _ z9.out) ?_
      rotate_left
      ·intro w h;go_simp;try with_reducible rfl
      try simp only [zv,zx]
      refine zZ (i:=20) (v:=?_) rfl (by kernel_rfl) hEp (by rfl) ?_ (HSZ.out _ z9.out) ?_
      rotate_left
      ·intro w h;go_simp;try with_reducible rfl
      try simp only [zv,zx]
      refine zZ (i:=21) (v:=?_) rfl (by kernel_rfl) hEp (by rfl) ?_ (HSZ.out _ z9.out) ?_
      rotate_left
      ·intro w h;go_simp;try with_reducible rfl
      try simp only [zv,zx]
      refine wpAnyH_done (by kernel_rfl) ?_ _
      have HF:=zy (HSt.out _ z9.out HT.out)
      gi_wp2
      exact HF.out _
     ·have hk:=hk.resolve_left hk1
      have hk1:(k == -1)=false:=by rw [beq_eq_false_iff_ne];exact hk1
      subst hk
      gi_wp2
      refine zRz (S:=fun wz=>wz.cell? ⟨w.heap.size,0,none⟩=some (.int .i64 k)∧wz.cell? ⟨w.heap.size+3,0,none⟩=some (.map (some (w.heap.size+2)))∧wz.cell? ⟨X,0,none⟩=some (.int .i64 k)∧zAI wz (w.heap.size+4) 36 #[.int .i64 b0, .int .i64 b1, .int .i64 b2]∧zAI wz X 36 #[.int .i64 k, .int .i64 x1, .int .i64 x2]) (by kernel_rfl) (by kernel_rfl) (fun ⟨_,_,h⟩=>hEo ⟨_,_,h⟩) (HSZ.out _ z0.out) (fun hHeld=>?_)
      clear hHeld
      refine zZ (i:=0) (v:=?_) rfl (by kernel_rfl) hEp (by rfl) ?_ (HSZ.out _ z0.out) ?_
      rotate_left
      ·intro w h;go_simp;try with_reducible rfl
      try simp only [zv,zx]
      refine zZ (i:=1) (v:=?_) rfl (by kernel_rfl) hEp (by rfl) ?_ (HSZ.out _ z0.out) ?_
      rotate_left
      ·intro w h;go_simp;try with_reducible rfl
      try simp only [zv,zx]
      refine zZ (i:=2) (v:=?_) rfl (by kernel_rfl) hEp (by rfl) ?_ (HSZ.out _ z0.out) ?_
      rotate_left
      ·intro w h;go_simp;try with_reducible rfl
      try simp only [zv,zx]
      refine zZ (i:=3) (v:=?_) rfl (by kernel_rfl) hEp (by rfl) ?_ (HSZ.out _ z0.out) ?_
      rotate_left
      ·intro w h;go_simp;try with_reducible rfl
      try simp only [zv,zx]
      refine zZ (i:=4) (v:=?_) rfl (by kernel_rfl) hEp (by rfl) ?_ (HSZ.out _ z0.out) ?_
      rotate_left
      ·intro w h;go_simp;try with_reducible rfl
      try simp only [zv,zx]
      refine zZ (i:=5) (v:=?_) rfl (by kernel_rfl) hEp (by rfl) ?_ (HSZ.out _ z0.out) ?_
      rotate_left
      ·intro w h;go_simp;try with_reducible rfl
      try simp only [zv,zx]
      refine zZ (i:=6) (v:=?_) rfl (by kernel_rfl) hEp (by rfl) ?_ (HSZ.out _ z0.out) ?_
      rotate_left
      ·intro w h;go_simp;try with_reducible rfl
      try simp only [zv,zx]
      refine zZ (i:=7) (v:=?_) rfl (by kernel_rfl) hEp (by rfl) ?_ (HSZ.out _ z0.out) ?_
      rotate_left
      ·intro w h;go_simp;try with_reducible rfl
      try simp only [zv,zx]
      refine zZ (i:=8) (v:=?_) rfl (by kernel_rfl) hEp (by rfl) ?_ (HSZ.out _ z0.out) ?_
      rotate_left
      ·intro w h;go_simp;try with_reducible rfl
      try simp only [zv,zx]
      refine zYb (i:=9) rfl (by kernel_rfl) hEp (zXh (by rfl) _ _ rfl _ rfl _ _ _ (fun wz h=>h.2.2.2.1) Tryz.underlying36 rfl (by exact zT5)) (HSZ.out _ z0.out) ?_
      try simp only [zv,zx]
      refine zZ (i:=10) (v:=?_) rfl (by kernel_rfl) hEp (by rfl) ?_ (HSZ.out _ z0.out) ?_
      rotate_left
      ·intro w h;go_simp;try with_reducible rfl
      try simp only [zv,zx]
      refine zZ (i:=11) (v:=?_) rfl (by kernel_rfl) hEp (by rfl) ?_ (HSZ.out _ z0.out) ?_
      rotate_left
      ·intro w h;go_simp;try with_reducible rfl
      try simp only [zv,zx]
      refine zZ (i:=12) (v:=?_) rfl (by kernel_rfl) hEp (by rfl) ?_ (HSZ.out _ z0.out) ?_
      rotate_left
      ·intro w h;go_simp;try with_reducible rfl
      try simp only [zv,zx]
      refine zZ (i:=13) (v:=?_) rfl (by kernel_rfl) hEp (by rfl) ?_ (HSZ.out _ z0.out) ?_
      rotate_left
      ·intro w h;go_simp;try with_reducible rfl
      try simp only [zv,zx]
      refine zYb (i:=14) rfl (by kernel_rfl) hEp (zXh (by rfl) _ _ rfl _ rfl _ _ _ (fun wz h=>h.2.2.2.2) Tryz.underlying36 rfl (by exact zT5)) (HSZ.out _ z0.out) ?_
      try simp only [zv,zx]
      refine zZ (i:=16) (v:=?_) rfl (by kernel_rfl) hEp (by rfl) ?_ (HSZ.out _ z0.out) ?_
      rotate_left
      ·intro w h;go_simp;try with_reducible rfl
      try simp only [zv,zx]
      refine zYb (i:=17) rfl (by kernel_rfl) hEp (zXh (by rfl) _ _ rfl _ rfl _ _ _ (fun wz h=>h.2.2.2.1) Tryz.underlying36 rfl (by exact zT5)) (HSZ.out _ z0.out) ?_
      try simp only [zv,zx]
      refine wpAnyH_ready (rs:= [15]) (by kernel_rfl) (by simp) ?_
      refine AllReadyH.cons rfl (fun K hK=>?_) AllReadyH.nil
      try simp only [zx]
      rw [if_pos (by rfl)]
      go_wp2_with (go_at_call 56;refine (HX.out _ z0.out).mono ?_;rintro e w8 ⟨rfl,z8⟩)
      have z8:=zy z8
      refine hK.out _ _ ((HSZ.out _ z8.out)) (fun _=>?_)
      clear hK K
      try simp only [zv,zx]
      refine wpAnyH_ready (rs:= [18]) (by kernel_rfl) (by simp) ?_
      refine AllReadyH.cons rfl (fun K hK=>?_) AllReadyH.nil
      try simp only [zx]
      rw [if_pos (by rfl)]
      go_wp2_with (go_at_call 56;refine (HB.out _ z8.out).mono ?_;rintro e w9 ⟨rfl,z9⟩)
      have z9:=zy z9
      refine hK.out _ _ ((HSZ.out _ z9.out)) (fun _=>?_)
      clear hK K
      try simp only [zv,zx]
      refine zZ (i:=19) (v:=?_) rfl (by kernel_rfl) hEp (by rfl) ?_ (HSZ.out _ z9.out) ?_
      rotate_left
      ·intro w h;go_simp;try with_reducible rfl
      try simp only [zv,zx]
      refine zZ (i:=20) (v:=?_) rfl (by kernel_rfl) hEp (by rfl) ?_ (HSZ.out _ z9.out) ?_
      rotate_left
      ·intro w h;go_simp;try with_reducible rfl
      try simp only [zv,zx]
      refine zZ (i:=21) (v:=?_) rfl (by kernel_rfl) hEp (by rfl) ?_ (HSZ.out _ z9.out) ?_
      rotate_left
      ·intro w h;go_simp;try with_reducible rfl
      try simp only [zv,zx]
      refine wpAnyH_done (by kernel_rfl) ?_ _
      have HF:=zy (HSt.out _ z9.out HT.out)
      gi_wp2
      exact HF.out _
 case hdone=>
  rintro W hsz hW hD
  have HW:=zy hW
  rw [←HC.out] at HW
  clear hW HC
  obtain ⟨b0,b1,b2⟩:=c
  have z0:=HW.out.best.cell (i:=0) (v:= .int .i64 b0) rfl
  have z1:=HW.out.best.cell (i:=1) (v:= .int .i64 b1) rfl
  have z2:=HW.out.best.cell (i:=2) (v:= .int .i64 b2) rfl
  have y0:=HW.out.res.cell (i:=0) (v:= .int .i64 0) rfl
  have y1:=HW.out.res.cell (i:=1) (v:= .int .i64 0) rfl
  have y2:=HW.out.res.cell (i:=2) (v:= .int .i64 0) rfl
  have g0:=HW.out.res.frozen 0
  have g1:=HW.out.res.frozen 1
  have g2:=HW.out.res.frozen 2
  have heq:=fun W=>zGn b0 b1 b2 0 0 0 W
  unfold zOq at heq
  have R3:=zy (((HW.out.res.set 0 (.int .i64 b0)).set 1 (.int .i64 b1)).set 2 (.int .i64 b2))
  have HD3:Hid (((((W.setCell ⟨w.heap.size+1,0,none⟩ (.int .i64 b0)).setCell ⟨w.heap.size+1,1,none⟩ (.int .i64 b1)).setCell ⟨w.heap.size+1,2,none⟩ (.int .i64 b2))).heap[w.heap.size+7]? =some (.deferred (some []))):=zy (by
   rw [hs7] at hD
   rw [heap_setCell_other _ _ _ _ (by simp),heap_setCell_other _ _ _ _ (by simp),heap_setCell_other _ _ _ _ (by simp)];exact hD)
  have HB3:Hid (Below w.heap.size w ((((W.setCell ⟨w.heap.size+1,0,none⟩ (.int .i64 b0)).setCell ⟨w.heap.size+1,1,none⟩ (.int .i64 b1)).setCell ⟨w.heap.size+1,2,none⟩ (.int .i64 b2)))):=zy
   (zCn (zCn (zCn HW.out.below (by omega) 0 _) (by omega) 1 _) (by omega) 2 _)
  clear hD
  by_cases hz:(b0 == 0 && b1 == 0 && b2 == 0)=true
  ·rw [hz] at heq
   gi_wp2
   refine ⟨by simp, .inl ⟨_,_,rfl,run_takeDeferred (by rw [hs7];exact HD3.out),?_⟩⟩
   refine ⟨_,zR9 rfl _ _ _ _ _ _ rfl (by unfold zAI;rw [World.putObj_heap_other (by omega)];exact R3.out) Tryz.underlying36 rfl (by exact zT5),?_,HB3.out.trans (zCm _ _ (by omega))⟩
   have he:er=11:=by
    rw [HE.out,if_pos]
    simp only [Bool.and_eq_true,beq_iff_eq] at hz
    obtain ⟨⟨rfl,rfl⟩,rfl⟩:=hz
    rfl
   rw [he];rfl
  ·rw [Bool.not_eq_true] at hz
   rw [hz] at heq
   gi_wp2
   refine ⟨by simp, .inl ⟨_,_,rfl,run_takeDeferred (by rw [hs7];exact HD3.out),?_⟩⟩
   refine ⟨_,zR9 rfl _ _ _ _ _ _ rfl (by unfold zAI;rw [World.putObj_heap_other (by omega)];exact R3.out) Tryz.underlying36 rfl (by exact zT5),?_,HB3.out.trans (zCm _ _ (by omega))⟩
   have he:er=0:=by
    rw [HE.out,if_neg]
    intro h
    injection h with h1 h2
    injection h2 with h2 h3
    subst h1 h2 h3
    simp at hz
   rw [he];rfl
 case hstop=>exact fun c pre W _ _ h _=>h.elim
end

section
open Go.RowKit
attribute [local go_sem] Oper.semAt_some
theorem zEs {w:World} {q:Option Addr} (n k c:Int) (hc:c≠0) (hck: ∀W,Below w.heap.size w W→Calls Tryz.prog 53 #[.pointer q, .int .i64 n] W fun e w'=>e= .returned (.int .i64 c)∧W=w'):
  Calls Tryz.prog 25 #[.pointer q, .int .i64 n, .int .i64 k] w fun e w'=>e= .returned (.tuple #[.agg (zD7 (0,0,0)), .int .i64 c])∧Below w.heap.size w w':=by
 have R2:=zy (lay2 w 34 36 #[.int .i64 k] #[.int .i64 0, .int .i64 0, .int .i64 0])
 have HCk:=zy (hck _ R2.out.2.2)
 have tc:(c != 0)=true:=by simpa using hc
 have hF47:Fence.wide.fn 53:=trivial
 have e47: ∀args w,(callFunc 53 args).run Tryz.prog w= .ok (.enter 53 args) w:=enters_of Tryz.func53 (by kernel_rfl) rfl
 clear hck hc
 refine (callsIn_wide (n:=4)).1 ?_
 refine callsIn_of_wp_marks Tryz.func25 rfl trivial ?_ rfl
 simp only [Tryz.ntmps25,List.size_toArray,List.length_cons,List.length_nil,Nat.reduceAdd,Nat.reduceSub,Array.replicate_succ,Array.replicate_zero,List.push_toArray,List.append_toArray,List.nil_append,List.cons_append]
 gi_wp2_with (gi_at_call 53;refine (callsIn_wide.2 HCk.out).mono ?_;rintro r w2 ⟨rfl,rfl⟩)
 refine ⟨_,zR9 rfl _ _ _ _ _ _ rfl R2.out.2.1 Tryz.underlying36 rfl (by exact zT5),rfl,R2.out.2.2⟩
theorem zEu (n k:Int) (w:World):Calls Tryz.prog 25 #[.pointer none, .int .i64 n, .int .i64 k] w fun e w'=>e= .returned (.tuple #[.agg (zD7 (0,0,0)), .int .i64 2])∧Below w.heap.size w w':=
 zEs n k 2 (by decide) (fun W _=>zNY n W)
noncomputable def chP (p n k:Int):PlT:=if chk p n 1024=0 then chF k (allL p n) else (0,0,0)
noncomputable def chE (p n k:Int):Int:=if chk p n 1024=0 then (if chF k (allL p n)=(0,0,0) then 11 else 0) else chk p n 1024
theorem zEr {w:World} {q:Option Addr} {p g:Int} (hFd:Fd w w.heap.size (.pointer q) p g) (n k:Int) (n0: -9223372036854775808≤n) (n1:n≤9223372036854775807):
  Calls Tryz.prog 25 #[.pointer q, .int .i64 n, .int .i64 k] w fun e w'=>e= .returned (.tuple #[.agg (zD7 (chP p n k)), .int .i64 (chE p n k)])∧Below w.heap.size w w':=by
 unfold chP chE
 by_cases hc:chk p n 1024=0
 ·rw [if_pos hc,if_pos hc]
  exact zEt hFd n k n0 n1 hc
 ·rw [if_neg hc,if_neg hc]
  exact zEs n k _ hc (fun W hb=>zNX (hFd.below hb) n n0 n1)
end

section
noncomputable def fitL (p n k:Int) (a:Nat):List PlT:=((List.range a).filter fun (i:Nat)=>decide (fitI p k n (i:Int)=0)).map fun (i:Nat)=>(k,n,(i:Int))
theorem zHc (p n k:Int):fitL p n k 0= []:=rfl
theorem zGZ (p n k:Int) (a:Nat):fitL p n k (a+1)=fitL p n k a ++ (if fitI p k n (a:Int)=0 then [(k,n,(a:Int))] else []):=by
 unfold fitL
 rw [List.range_succ,List.filter_append,List.map_append]
 congr 1
 by_cases h:fitI p k n (a:Int)=0
 ·rw [if_pos h];simp [h]
 ·rw [if_neg h];simp [h]
theorem zHb {p n k:Int} {a:Nat} (h:fitI p k n (a:Int)=0):fitL p n k (a+1)=fitL p n k a ++ [(k,n,(a:Int))]:=by rw [zGZ,if_pos h]
theorem zGY {p n k:Int} {a:Nat} (h:fitI p k n (a:Int)≠0):fitL p n k (a+1)=fitL p n k a:=by rw [zGZ,if_neg h,List.append_nil]
theorem zHa {p n k:Int} {m:Nat} (h: ∀i:Nat,fitI p k n (i:Int)=0→i=m): ∀a,fitL p n k a=if m<a then one p k n (m:Int) else []
 | 0=>by rw [if_neg (by omega)];rfl
 | a+1=>by
  have ih:=zHa h a
  by_cases hf:fitI p k n (a:Int)=0
  ·have:=h a hf
   subst this
   rw [zHb hf,ih,if_neg (by omega),if_pos (by omega),List.nil_append]
   unfold one
   rw [if_pos hf]
  ·rw [zGY hf,ih]
   by_cases hm:m<a
   ·rw [if_pos hm,if_pos (by omega)]
   ·rw [if_neg hm]
    by_cases e:m=a
    ·subst e
     rw [if_pos (by omega)]
     unfold one
     rw [if_neg hf]
    ·rw [if_neg (by omega)]
theorem zHe {p K N A:Int} (h:fitI p K N A=0):canB K N A=true:=by
 unfold fitI at h
 split at h
 ·rename_i h1;exact absurd h h1
 ·split at h
  ·omega
  ·rename_i h2
   cases hc:canB K N A with
   | true=>rfl
   | false=>exact absurd (.inl hc) h2
def endK (n k:Int):Nat:=if k<4 then 1 else if k=4 then n.toNat else 2049
theorem zOb {n:Int} (h:n≤2048):pd n≤2048:=by
 unfold pd
 rw [if_neg (by omega)]
 by_cases h1:n≤1
 ·rw [if_pos h1];decide
 rw [if_neg h1]
 by_cases h2:n≤2
 ·rw [if_pos h2];decide
 rw [if_neg h2]
 by_cases h4:n≤4
 ·rw [if_pos h4];decide
 rw [if_neg h4]
 by_cases h8:n≤8
 ·rw [if_pos h8];decide
 rw [if_neg h8]
 by_cases h16:n≤16
 ·rw [if_pos h16];decide
 rw [if_neg h16]
 by_cases h32:n≤32
 ·rw [if_pos h32];decide
 rw [if_neg h32]
 by_cases h64:n≤64
 ·rw [if_pos h64];decide
 rw [if_neg h64]
 by_cases h128:n≤128
 ·rw [if_pos h128];decide
 rw [if_neg h128]
 by_cases h256:n≤256
 ·rw [if_pos h256];decide
 rw [if_neg h256]
 by_cases h512:n≤512
 ·rw [if_pos h512];decide
 rw [if_neg h512]
 by_cases h1024:n≤1024
 ·rw [if_pos h1024];decide
 rw [if_neg h1024]
 rw [if_pos h];decide
theorem zGW {p n k:Int} (hn:1≤n∧n≤1024) (hk:0≤k∧k≤6):fitL p n k (endK n k)=ofL p n k:=by
 unfold ofL endK
 by_cases h4:k<4
 ·rw [if_pos h4,if_neg (by omega),if_neg (by omega),if_neg (by omega),zGZ,zHc,List.nil_append];rfl
 ·rw [if_neg h4]
  by_cases h44:k=4
  ·subst h44
   rw [if_pos rfl,if_pos rfl]
   unfold fitL of4
   congr 1
   refine List.filter_congr fun i _=>?_
   refine decide_eq_decide.2 ⟨fun h=>⟨?_,h⟩,fun h=>h.2⟩
   have:=(zDf (zHe h)).1
   omega
  ·rw [if_neg h44,if_neg h44]
   by_cases h5:k=5
   ·subst h5
    rw [if_pos rfl]
    have hr:=zSs n
    obtain ⟨m,hm⟩:=Int.eq_ofNat_of_zero_le hr.1
    have hm2:m<2049:=by
     have:rpad n≤2048:=by
      unfold rpad
      split
      ·exact zOb (by omega)
      ·omega
     omega
    rw [zHa (m:=m) (fun i hi=>by
     have h:=zHe hi
     rw [zDg hn] at h
     simp at h
     omega),if_pos hm2,hm]
   ·have h6:k=6:=by omega
    subst h6
    rw [if_neg h5,if_pos rfl]
    have hc:cpad n=pd (2*n-1):=by unfold cpad;rw [if_pos hn]
    have h1:=zOc (show 2*n-1≤4096 by omega)
    obtain ⟨m,hm⟩:=Int.eq_ofNat_of_zero_le (show 0≤cpad n by omega)
    have hm2:m<2049:=by
     have:=zOb (show 2*n-1≤2048 by omega)
     omega
    rw [zHa (m:=m) (fun i hi=>by
     have h:=zHe hi
     rw [zDg hn] at h
     simp at h
     omega),if_pos hm2,hm]
def zOv (l:List PlT):List Value:=l.flatMap fun x=> [.int .i64 x.1, .int .i64 x.2.1, .int .i64 x.2.2]
theorem zOy (l:List PlT) (x:PlT):zOv (l ++ [x])=zOv l ++ [.int .i64 x.1, .int .i64 x.2.1, .int .i64 x.2.2]:=by simp [zOv]
theorem zOw (l:List PlT): ∀j,j<l.length→(zOv l)[j*3]? =some (.int .i64 (l.getD j (0,0,0)).1)∧(zOv l)[j*3+1]? =some (.int .i64 (l.getD j (0,0,0)).2.1)∧(zOv l)[j*3+2]? =some (.int .i64 (l.getD j (0,0,0)).2.2):=by
 induction l with
 | nil=>intro j hj;simp at hj
 | cons x l ih=>
  intro j hj
  rw [show zOv (x :: l)= [.int .i64 x.1, .int .i64 x.2.1, .int .i64 x.2.2] ++ zOv l from rfl]
  match j with
  | 0=>exact ⟨rfl,rfl,rfl⟩
  | j+1=>
   have h:=ih j (by simpa using hj)
   rw [show (j+1)*3=3+j*3 by omega]
   simp only [List.getD_cons_succ]
   refine ⟨?_,?_,?_⟩
   ·rw [List.getElem?_append_right (by simp)];simpa using h.1
   ·rw [List.getElem?_append_right (by simp;omega),show 3+j*3+1-([.int .i64 x.1, .int .i64 x.2.1, .int .i64 x.2.2]:List Value).length=j*3+1 by simp;omega];exact h.2.1
   ·rw [List.getElem?_append_right (by simp;omega),show 3+j*3+2-([.int .i64 x.1, .int .i64 x.2.1, .int .i64 x.2.2]:List Value).length=j*3+2 by simp;omega];exact h.2.2
end

section
open Go.RowKit
theorem zJq:(Tryz.prog.info? 27).map (fun i=>(i.zero,i.size,i.bytes))=some (some (.agg #[.int .i64 0, .int .i64 0, .int .i64 0]),3,24):=by kernel_rfl
theorem zN3 {w w':World} {B sz n:Nat} {t:TypeId} {v:Value} {cs:List Value} (h:w.ownsRow B t sz v n cs) (hb:Below w.heap.size w w'):w'.ownsRow B t sz v n cs:=
 World.ownsRow.kept h ⟨hb.os,hb.tape,hb.output,hb.size,fun i hi _=>hb.block i hi⟩ (row:=none) (by
  rcases h.2 with ⟨e,_⟩|⟨g',cap',cur',e,_⟩
  ·exact .inl (by rw [e];rfl)
  ·exact .inr (by rw [e];simp [Value.ownBlock]))
theorem zGX (p n k:Int) (a:Nat):(fitL p n k a).length≤a:=by
 unfold fitL
 rw [List.length_map]
 exact Nat.le_trans (List.length_filter_le _ _) (by simp)
theorem zGd {n:Int} (hn:1≤n∧n≤1024) (k:Int):endK n k≤2049:=by
 unfold endK
 split
 ·omega
 ·split <;> omega
theorem zVV {p n:Int} (hn:1≤n∧n≤1024): ∀k:Nat,k≤7→(upA p n k).length≤2049*k
 | 0,_=>by unfold upA;simp
 | k+1,h=>by
  rw [zVX,List.length_append,←zGW hn (by omega)]
  have h1:=zVV (p:=p) hn k (by omega)
  have h2:=zGX p n (k:Int) (endK n k)
  have h3:=zGd hn (k:Int)
  omega
theorem zPI (p n:Int) (p1:3≤p) (p2:p<9223372036854775808) (hn:1≤n∧n≤1024) (w:World):
  Calls Tryz.prog 22 #[.int .u64 p, .int .i64 n] w fun e w'=> ∃V,e= .returned V∧w'.ownsRow w.heap.size 27 3 V (allL p n).length (zOv (allL p n))∧Below w.heap.size w w':=by
 obtain ⟨i0,hi,hz0,hz1,hz2⟩:=info_parts zJq
 have HFt:Hid (∀k a:Nat,k≤6→a≤2048→ ∀W,Calls Tryz.prog 20 #[.int .u64 p, .agg #[.int .i64 (k:Int), .int .i64 n, .int .i64 (a:Int)]] W fun e w'=>e= .returned (.int .i64 (fitI p k n a))∧Below W.heap.size W w'):=
  zy (fun k a hk ha W=>zPO p k n a p1 p2 (by omega) (by omega) (by omega) (by omega) (by omega) (by omega) W)
 have HN:=zy hn
 obtain ⟨m,rfl⟩:=Int.eq_ofNat_of_zero_le (show 0≤n by omega)
 obtain ⟨n,hnn⟩: ∃n:Int,n=(m:Int):=⟨_,rfl⟩
 rw [←hnn] at HFt HN ⊢
 have HM:=zy hnn
 have hm:1≤m∧m≤1024:=by omega
 clear hnn hn p1 p2
 go_enter Tryz.func22,Tryz.ntmps22
 go_wp2
 go_loopw [5,6] (fun O I wr=> ∃k:Nat,I= .int .i64 (k:Int)∧k≤7∧wr.ownsRow w.heap.size 27 3 O (upA p n k).length (zOv (upA p n k))∧Below w.heap.size w wr) (fun _ I _=>7-(intOf I).toNat)
 case atStart=>exact ⟨0,rfl,by omega,World.ownsRow_nil _ _ _ _,Below.refl _ _⟩
 case round=>
  obtain ⟨k,rfl,hk,hown,hB⟩:=hrel
  by_cases hk6:k≤6
  ·have t1:decide ((k:Int)≤6)=true:=decide_eq_true (by omega)
   have HEnd:Hid (upA p n k ++ fitL p n k (endK n k)=upA p n (k+1)):=zy (by rw [zGW HN.out (by omega),zVX])
   have HYes:Hid (∀a:Nat,fitI p k n a=0→upA p n k ++ fitL p n k (a+1)=(upA p n k ++ fitL p n k a) ++ [((k:Int),n,(a:Int))]):=zy (fun a h=>by rw [zHb h,List.append_assoc])
   have HNo:Hid (∀a:Nat,fitI p k n a≠0→upA p n k ++ fitL p n k (a+1)=upA p n k ++ fitL p n k a):=zy (fun a h=>by rw [zGY h])
   have HLn:Hid (∀a:Nat,(upA p n k ++ fitL p n k a).length≤2049*k+a):=zy (fun a=>by
    rw [List.length_append]
    have h1:=zVV (p:=p) HN.out k hk
    have h2:=zGX p n (k:Int) a
    omega)
   have he20:=zGd HN.out (k:Int)
   rw [←List.append_nil (upA p n k),←zHc p n k] at hown
   obtain ⟨z,hz⟩: ∃z,z=endK n k:=⟨_,rfl⟩
   rw [←hz] at HEnd he20
   have HZ:=zy hz
   have HO0:=zy hown
   clear hz hown
   go_wp2
   go_loopw [5,7] (fun O I wr=> ∃a:Nat,I= .int .i64 (a:Int)∧a≤z∧wr.ownsRow w.heap.size 27 3 O (upA p n k ++ fitL p n k a).length (zOv (upA p n k ++ fitL p n k a))∧Below w.heap.size w wr) (fun _ I _=>2050-(intOf I).toNat)
   case atStart=>exact ⟨0,rfl,by omega,HO0.out,hB⟩
   case round=>
    clear HO0 hB
    obtain ⟨a,rfl,ha,hown,hB⟩:=hrel
    have hLen:=HLn.out a
    by_cases he:a=z
    ·subst he
     rw [HEnd.out] at hown
     have HO:=zy hown
     have hz:=HZ.out
     unfold endK at hz
     clear hown hLen
     by_cases hk4:k<4
     ·rw [if_pos (by omega)] at hz
      have t2:decide ((a:Int)≤2048)=true:=decide_eq_true (by omega)
      have t3:decide ((k:Int)<4)=true:=decide_eq_true (by omega)
      have t6:decide ((a:Int)>0)=true:=decide_eq_true (by omega)
      have t6b:decide (0<a)=true:=decide_eq_true (by omega)
      clear hz
      go_wp2
      go_roundw
      case rel=>exact ⟨k+1,by go_num,by omega,HO.out,hB⟩
      case measure=>simp [intOf];omega
     ·rw [if_neg (by omega)] at hz
      by_cases hk44:k=4
      ·rw [if_pos (by omega)] at hz
       have t3:decide ((k:Int)<4)=false:=decide_eq_false (by omega)
       have t4:((k:Int) == 4)=true:=by simp;omega
       have t2:decide ((a:Int)≤2048)=true:=decide_eq_true (by have:=HM.out;omega)
       have t5:decide ((a:Int)≥n)=true:=decide_eq_true (by have:=HM.out;omega)
       clear hz
       go_wp2
       go_roundw
       case rel=>exact ⟨k+1,by go_num,by omega,HO.out,hB⟩
       case measure=>simp [intOf];omega
      ·rw [if_neg (by omega)] at hz
       have t2:decide ((a:Int)≤2048)=false:=decide_eq_false (by omega)
       clear hz
       go_wp2
       go_roundw
       case rel=>exact ⟨k+1,by go_num,by omega,HO.out,hB⟩
       case measure=>simp [intOf];omega
    ·have hlt:a<z:=by omega
     have hz:=HZ.out
     unfold endK at hz
     have ha20:a≤2048:=by omega
     have t2:decide ((a:Int)≤2048)=true:=decide_eq_true (by omega)
     by_cases hk4:k<4
     ·rw [if_pos (by omega)] at hz
      have t3:decide ((k:Int)<4)=true:=decide_eq_true (by omega)
      have t6:decide ((a:Int)>0)=false:=decide_eq_false (by omega)
      have t6b:decide (0<a)=false:=decide_eq_false (by omega)
      clear hz
      go_wp2_with fail
      refine (HFt.out k a hk6 ha20 _).mono ?_
      rintro e w6 ⟨rfl,hB6⟩
      have hB':=hB.trans (hB6.mono hB.size)
      have hown6:=zN3 hown hB6
      have hYes:=zy (fun h=>HYes.out a h)
      have hNo:=zy (fun h=>HNo.out a h)
      obtain ⟨L,hL⟩: ∃L,L=upA p n k ++ fitL p n k a:=⟨_,rfl⟩
      rw [←hL] at hown6 hLen hYes hNo
      obtain ⟨er,her⟩: ∃er,er=fitI p k n a:=⟨_,rfl⟩
      rw [←her] at hYes hNo ⊢
      clear hB hB6 hown hL her
      by_cases hf:er=0
      ·subst hf
       have HYe:Hid (upA p n k ++ fitL p n k (a+1)=L ++ [((k:Int),n,(a:Int))]):=zy (hYes.out rfl)
       clear hYes hNo
       go_wp2_with (at_builtin;refine wpList_append_own _ rfl _ _ 42 rfl w.heap.size 27 i0 (.agg #[.int .i64 0, .int .i64 0, .int .i64 0]) 3 24 Tryz.underlying42 hi hz0 hz1 hz2 rfl (by decide) _ _ _ rfl (hown6.alloc _) ⟨w6.heap.size,0,none⟩ 1 1 [.int .i64 (k:Int), .int .i64 n, .int .i64 (a:Int)] rfl rfl ?c1 ?c2 ?c3 ?c4 ?c5 ?_)
       case c1=>
        intro j u hj
        match j,hj with
        | 0,hj=>simp at hj;subst hj;simp [Addr.add]
        | 1,hj=>simp at hj;subst hj;simp [Addr.add]
        | 2,hj=>simp at hj;subst hj;simp [Addr.add]
       case c2=>intro u hu;simp at hu;rcases hu with rfl|rfl|rfl <;> rfl
       case c3=>unfold maxLen;omega
       case c4=>omega
       case c5=>have:=hB'.size;simp;omega
       intro v' w7 hown' hgrow _
       rw [←zOy L ((k:Int),n,(a:Int))] at hown'
       have hB7:=(hB'.alloc hB'.size (.cells #[.int .i64 (k:Int), .int .i64 n, .int .i64 (a:Int)] 27)).grown hgrow (by have:=hB'.size;simp;omega) (fun k hk=>(hown6.lt k hk).1)
       have HO:Hid (w7.ownsRow w.heap.size 27 3 v' (upA p n k ++ fitL p n k (a+1)).length (zOv (upA p n k ++ fitL p n k (a+1)))):=zy (by rw [HYe.out,List.length_append,List.length_singleton];exact hown')
       clear hown' hgrow hown6 hB'
       go_wp2
       go_roundw
       case rel=>exact ⟨a+1,by go_num,by omega,HO.out,hB7⟩
       case measure=>simp [intOf];omega
      ·have tf:(er == 0)=false:=by simpa using hf
       have HO:Hid (w6.ownsRow w.heap.size 27 3 _ (upA p n k ++ fitL p n k (a+1)).length (zOv (upA p n k ++ fitL p n k (a+1)))):=zy (by rw [hNo.out hf];exact hown6)
       clear hown6
       go_wp2
       go_roundw
       case rel=>exact ⟨a+1,by go_num,by omega,HO.out,hB'⟩
       case measure=>simp [intOf];omega
     ·rw [if_neg (by omega)] at hz
      by_cases hk44:k=4
      ·have t3:decide ((k:Int)<4)=false:=decide_eq_false (by omega)
       have t4:((k:Int) == 4)=true:=by simp;omega
       rw [if_pos (by omega)] at hz
       have t5:decide ((a:Int)≥n)=false:=decide_eq_false (by have:=HM.out;omega)
       clear hz hk44
       go_wp2_with fail
       refine (HFt.out k a hk6 ha20 _).mono ?_
       rintro e w6 ⟨rfl,hB6⟩
       have hB':=hB.trans (hB6.mono hB.size)
       have hown6:=zN3 hown hB6
       have hYes:=zy (fun h=>HYes.out a h)
       have hNo:=zy (fun h=>HNo.out a h)
       obtain ⟨L,hL⟩: ∃L,L=upA p n k ++ fitL p n k a:=⟨_,rfl⟩
       rw [←hL] at hown6 hLen hYes hNo
       obtain ⟨er,her⟩: ∃er,er=fitI p k n a:=⟨_,rfl⟩
       rw [←her] at hYes hNo ⊢
       clear hB hB6 hown hL her
       by_cases hf:er=0
       ·subst hf
        have HYe:Hid (upA p n k ++ fitL p n k (a+1)=L ++ [((k:Int),n,(a:Int))]):=zy (hYes.out rfl)
        clear hYes hNo
        go_wp2_with (at_builtin;refine wpList_append_own _ rfl _ _ 42 rfl w.heap.size 27 i0 (.agg #[.int .i64 0, .int .i64 0, .int .i64 0]) 3 24 Tryz.underlying42 hi hz0 hz1 hz2 rfl (by decide) _ _ _ rfl (hown6.alloc _) ⟨w6.heap.size,0,none⟩ 1 1 [.int .i64 (k:Int), .int .i64 n, .int .i64 (a:Int)] rfl rfl ?c1 ?c2 ?c3 ?c4 ?c5 ?_)
        case c1=>
         intro j u hj
         match j,hj with
         | 0,hj=>simp at hj;subst hj;simp [Addr.add]
         | 1,hj=>simp at hj;subst hj;simp [Addr.add]
         | 2,hj=>simp at hj;subst hj;simp [Addr.add]
        case c2=>intro u hu;simp at hu;rcases hu with rfl|rfl|rfl <;> rfl
        case c3=>unfold maxLen;omega
        case c4=>omega
        case c5=>have:=hB'.size;simp;omega
        intro v' w7 hown' hgrow _
        rw [←zOy L ((k:Int),n,(a:Int))] at hown'
        have hB7:=(hB'.alloc hB'.size (.cells #[.int .i64 (k:Int), .int .i64 n, .int .i64 (a:Int)] 27)).grown hgrow (by have:=hB'.size;simp;omega) (fun k hk=>(hown6.lt k hk).1)
        have HO:Hid (w7.ownsRow w.heap.size 27 3 v' (upA p n k ++ fitL p n k (a+1)).length (zOv (upA p n k ++ fitL p n k (a+1)))):=zy (by rw [HYe.out,List.length_append,List.length_singleton];exact hown')
        clear hown' hgrow hown6 hB'
        go_wp2
        go_roundw
        case rel=>exact ⟨a+1,by go_num,by omega,HO.out,hB7⟩
        case measure=>simp [intOf];omega
       ·have tf:(er == 0)=false:=by simpa using hf
        have HO:Hid (w6.ownsRow w.heap.size 27 3 _ (upA p n k ++ fitL p n k (a+1)).length (zOv (upA p n k ++ fitL p n k (a+1)))):=zy (by rw [hNo.out hf];exact hown6)
        clear hown6
        go_wp2
        go_roundw
        case rel=>exact ⟨a+1,by go_num,by omega,HO.out,hB'⟩
        case measure=>simp [intOf];omega
      ·rw [if_neg (by omega)] at hz
       have t3:decide ((k:Int)<4)=false:=decide_eq_false (by omega)
       have t4:((k:Int) == 4)=false:=by simp;omega
       clear hz hk44
       go_wp2_with fail
       refine (HFt.out k a hk6 ha20 _).mono ?_
       rintro e w6 ⟨rfl,hB6⟩
       have hB':=hB.trans (hB6.mono hB.size)
       have hown6:=zN3 hown hB6
       have hYes:=zy (fun h=>HYes.out a h)
       have hNo:=zy (fun h=>HNo.out a h)
       obtain ⟨L,hL⟩: ∃L,L=upA p n k ++ fitL p n k a:=⟨_,rfl⟩
       rw [←hL] at hown6 hLen hYes hNo
       obtain ⟨er,her⟩: ∃er,er=fitI p k n a:=⟨_,rfl⟩
       rw [←her] at hYes hNo ⊢
       clear hB hB6 hown hL her
       by_cases hf:er=0
       ·subst hf
        have HYe:Hid (upA p n k ++ fitL p n k (a+1)=L ++ [((k:Int),n,(a:Int))]):=zy (hYes.out rfl)
        clear hYes hNo
        go_wp2_with (at_builtin;refine wpList_append_own _ rfl _ _ 42 rfl w.heap.size 27 i0 (.agg #[.int .i64 0, .int .i64 0, .int .i64 0]) 3 24 Tryz.underlying42 hi hz0 hz1 hz2 rfl (by decide) _ _ _ rfl (hown6.alloc _) ⟨w6.heap.size,0,none⟩ 1 1 [.int .i64 (k:Int), .int .i64 n, .int .i64 (a:Int)] rfl rfl ?c1 ?c2 ?c3 ?c4 ?c5 ?_)
        case c1=>
         intro j u hj
         match j,hj with
         | 0,hj=>simp at hj;subst hj;simp [Addr.add]
         | 1,hj=>simp at hj;subst hj;simp [Addr.add]
         | 2,hj=>simp at hj;subst hj;simp [Addr.add]
        case c2=>intro u hu;simp at hu;rcases hu with rfl|rfl|rfl <;> rfl
        case c3=>unfold maxLen;omega
        case c4=>omega
        case c5=>have:=hB'.size;simp;omega
        intro v' w7 hown' hgrow _
        rw [←zOy L ((k:Int),n,(a:Int))] at hown'
        have hB7:=(hB'.alloc hB'.size (.cells #[.int .i64 (k:Int), .int .i64 n, .int .i64 (a:Int)] 27)).grown hgrow (by have:=hB'.size;simp;omega) (fun k hk=>(hown6.lt k hk).1)
        have HO:Hid (w7.ownsRow w.heap.size 27 3 v' (upA p n k ++ fitL p n k (a+1)).length (zOv (upA p n k ++ fitL p n k (a+1)))):=zy (by rw [HYe.out,List.length_append,List.length_singleton];exact hown')
        clear hown' hgrow hown6 hB'
        go_wp2
        go_roundw
        case rel=>exact ⟨a+1,by go_num,by omega,HO.out,hB7⟩
        case measure=>simp [intOf];omega
       ·have tf:(er == 0)=false:=by simpa using hf
        have HO:Hid (w6.ownsRow w.heap.size 27 3 _ (upA p n k ++ fitL p n k (a+1)).length (zOv (upA p n k ++ fitL p n k (a+1)))):=zy (by rw [hNo.out hf];exact hown6)
        clear hown6
        go_wp2
        go_roundw
        case rel=>exact ⟨a+1,by go_num,by omega,HO.out,hB'⟩
        case measure=>simp [intOf];omega
  ·obtain rfl:k=7:=by omega
   have HO:=zy hown
   clear hown
   go_wp2
   go_ret
   exact ⟨_,rfl,HO.out,hB⟩
end

section
open Go.RowKit
theorem zN8 {w:World} {B:Nat} {V:Value} {L:List PlT} (h:w.ownsRow B 27 3 V L.length (zOv L)): ∃A c G,V= .slice A L.length c∧B≤G∧(0<L.length→A=some ⟨G,0,none⟩)∧
  ∀j,j<L.length→w.rangeAt G (j*3) [.int .i64 (L.getD j (0,0,0)).1, .int .i64 (L.getD j (0,0,0)).2.1, .int .i64 (L.getD j (0,0,0)).2.2]:=by
 have hown:=h
 rcases h.2 with ⟨rfl,hz⟩|⟨gb,cap,cur,rfl,hbase,hgb,r1,r2,r3,r4⟩
 ·exact ⟨none,0,B,by rw [hz],Nat.le_refl _,fun h=>by omega,fun j hj=>by omega⟩
 ·refine ⟨_,cap,gb,rfl,hbase,fun _=>rfl,fun j hj=>?_⟩
  obtain ⟨c0,c1,c2⟩:=zOw L j hj
  have d0:=hown.cells (g:=gb) rfl (j*3) _ c0
  have d1:=hown.cells (g:=gb) rfl (j*3+1) _ c1
  have d2:=hown.cells (g:=gb) rfl (j*3+2) _ c2
  have ea: ∀n,(⟨gb,0,none⟩:Addr).add n=⟨gb,n,none⟩:=fun n=>by unfold Addr.add;split <;> simp_all
  rw [ea] at d0 d1 d2
  intro i v hv
  match i,hv with
  | 0,hv=>cases hv;exact d0
  | 1,hv=>cases hv;exact d1
  | 2,hv=>cases hv;exact d2
  | i+3,hv=>simp at hv
structure RcI (w:World) (G:Nat) (L:List PlT) (b:PlT) (W:World):Prop where
 below:Below w.heap.size w W
 size:w.heap.size+2≤W.heap.size
 res:zAI W w.heap.size 27 (zD7 (0,0,0))
 best:zAI W (w.heap.size+1) 27 (zD7 b)
 rng: ∀j,j<L.length→W.rangeAt G (j*3) [.int .i64 (L.getD j (0,0,0)).1, .int .i64 (L.getD j (0,0,0)).2.1, .int .i64 (L.getD j (0,0,0)).2.2]
 hG:w.heap.size+2≤G
theorem RcI.keep {w:World} {G:Nat} {L:List PlT} {b:PlT} {W W':World} (h:RcI w G L b W) (hb:Below W.heap.size W W'):RcI w G L b W':=
 ⟨h.below.trans (hb.mono h.below.size),Nat.le_trans h.size hb.size,h.res.keep hb,h.best.keep hb,fun j hj i v hv=>by
  have h1:=h.rng j hj i v hv
  exact zDs hb (World.block_lt_of_cell? _ _ h1) h1,h.hG⟩
theorem RcI.set {w:World} {G:Nat} {L:List PlT} {b:PlT} {W:World} (h:RcI w G L b W) (x:PlT):RcI w G L x (W.setRow (w.heap.size+1) (zD7 x)):=
 ⟨below_setRow h.below (by omega) _,by have:=h.size;simpa using this,h.res.setRowOther _ _ (by omega),h.best.setRow _,fun j hj i v hv=>by
  have h1:=h.rng j hj i v hv
  have h2:=h.hG
  rw [←h1]
  simp only [World.cell?]
  rw [show (W.setRow (w.heap.size+1) (zD7 x)).heap[G]? =W.heap[G]? from setRow_other W (w.heap.size+1) G (zD7 x) (by omega)],h.hG⟩
theorem zPK (p n k:Int) (p1:3≤p) (p2:p<9223372036854775808) (n0: -9223372036854775808≤n) (n1:n≤9223372036854775807) (w:World):
  Calls Tryz.prog 26 #[.int .u64 p, .int .i64 n, .int .i64 k] w fun e w'=>e= .returned (.tuple #[.agg (zD7 (chP p n k)), .int .i64 (chE p n k)])∧Below w.heap.size w w':=by
 have R1:=zy (lay1 w 27 #[.int .i64 0, .int .i64 0, .int .i64 0])
 have HCk:=zy (fun W=>zP8 p n 1024 W p1 p2 n0 n1)
 unfold chP chE
 by_cases hc:chk p n 1024=0
 case neg=>
  rw [if_neg hc,if_neg hc]
  obtain ⟨c,hcc⟩: ∃c,c=chk p n 1024:=⟨_,rfl⟩
  rw [←hcc] at HCk hc ⊢
  have tc:(c != 0)=true:=by simpa using hc
  have R2:=zy (R1.out.1.setRow #[.int .i64 0, .int .i64 0, .int .i64 0])
  clear hcc hc
  go_enter Tryz.func26,Tryz.ntmps26
  go_wp2_with fail
  refine (HCk.out _).mono ?_
  rintro e w1 ⟨rfl,rfl⟩
  go_wp2_with (refine wpList_store_row rfl _ _ _ rfl _ _ rfl rfl _ _ (R1.out.1) (by exact zT6) rfl (zOs _ _ _) ?_)
  refine bodyPost_ret (zR9 rfl _ _ _ _ _ _ rfl R2.out Tryz.underlying27 rfl (by exact zT6)) (by rfl) ?_
  exact ⟨rfl,below_setRow R1.out.2 (Nat.le_refl _) _⟩
 case pos=>
  rw [if_pos hc,if_pos hc]
  have hn:=zEo hc
  have HA:=zy (fun W=>zPI p n p1 p2 hn W)
  have HCan:Hid (∀x ∈ allL p n,CanP x):=zy (fun x hx=>zBz hn hc hx)
  rw [hc] at HCk
  obtain ⟨L,hL⟩: ∃L,L=allL p n:=⟨_,rfl⟩
  rw [←hL] at HA HCan ⊢
  have hLl:L.length≤20000:=by
   rw [hL]
   have:=zVV (p:=p) hn 7 (by omega)
   unfold allL
   omega
  obtain ⟨⟨c0,c1,c2⟩,hcc⟩: ∃c,c=chF k L:=⟨_,rfl⟩
  obtain ⟨er,her⟩: ∃er:Int,er=if chF k L=(0,0,0) then 11 else 0:=⟨_,rfl⟩
  rw [←her,←hcc]
  rw [←hcc] at her
  have HCc:=zy (zDJ k L (fun y hy=>HCan.out y hy))
  rw [←hcc] at HCc
  have HC:=zy hcc
  have HE:=zy her
  clear hc hn hL hcc her
  go_enter Tryz.func26,Tryz.ntmps26
  go_wp2_with fail
  refine (HCk.out _).mono ?_
  rintro e w1 ⟨rfl,rfl⟩
  have R2:=zy (lay2 w 27 27 #[.int .i64 0, .int .i64 0, .int .i64 0] #[.int .i64 0, .int .i64 0, .int .i64 0])
  go_wp2_with fail
  refine (HA.out _).mono ?_
  rintro e w3 ⟨V,rfl,hown,hB3⟩
  obtain ⟨A,cA,G,rfl,hG,hA,hrng⟩:=zN8 hown
  simp only [World.size_alloc] at hG
  have HI0:Hid (RcI w G L (chF k (L.take 0)) w3):=zy ⟨R2.out.2.2.trans (hB3.mono R2.out.2.2.size),by have:=hB3.size;simp at this;omega,R2.out.1.keep hB3,R2.out.2.1.keep hB3,hrng,hG⟩
  have HAa:=zy hA
  clear hown hrng hB3 hA R2 R1
  go_wp2
  go_loopw [24] (fun I wr=> ∃j:Nat,I= .int .i64 (j:Int)∧j≤L.length∧RcI w G L (chF k (L.take j)) wr) (fun I _=>L.length-(intOf I).toNat)
  case atStart=>exact ⟨0,rfl,by omega,HI0.out⟩
  case round=>
   clear HI0
   obtain ⟨j,rfl,hj,hW⟩:=hrel
   by_cases hlt:j<L.length
   ·obtain rfl:=HAa.out (by omega)
    have HRa:=zy (hW.rng j hlt)
    have hcx:CanP (L.getD j (0,0,0)):=HCan.out _ (by rw [List.getD_eq_getElem?_getD,List.getElem?_eq_getElem hlt];exact List.getElem_mem hlt)
    have hcb:=zDJ k (L.take j) (fun y hy=>HCan.out y (List.mem_of_mem_take hy))
    have HChz:Hid (chF k (L.take (j+1))=chz k (chF k (L.take j)) (L.getD j (0,0,0))):=zy (by
     rw [←zDM,List.take_add_one,List.getD_eq_getElem?_getD,List.getElem?_eq_getElem hlt];rfl)
    obtain ⟨⟨x0,x1,x2⟩,hx⟩: ∃x,x=L.getD j (0,0,0):=⟨_,rfl⟩
    obtain ⟨⟨b0,b1,b2⟩,hb⟩: ∃b,b=chF k (L.take j):=⟨_,rfl⟩
    rw [←hx] at HRa hcx HChz
    rw [←hb] at hW hcb HChz
    have HW:=zy hW
    have H5:=zy (zAI.new wr 27 #[.int .i64 0, .int .i64 0, .int .i64 0])
    have h5s:=hW.size
    obtain ⟨X,hX⟩: ∃X,X=wr.heap.size:=⟨_,rfl⟩
    have KP:Hid (∀W W',(RcI w G L (b0,b1,b2) W∧zAI W X 27 #[.int .i64 x0, .int .i64 x1, .int .i64 x2]∧w.heap.size+2≤X)→Below W.heap.size W W'→(RcI w G L (b0,b1,b2) W'∧zAI W' X 27 #[.int .i64 x0, .int .i64 x1, .int .i64 x2]∧w.heap.size+2≤X)):=zy (fun W W' h hB=>⟨h.1.keep hB,h.2.1.keep hB,h.2.2⟩)
    have z0:Hid (RcI w G L (b0,b1,b2) (((wr.alloc (.cells #[.int .i64 0, .int .i64 0, .int .i64 0] 27)).setRow X #[.int .i64 x0, .int .i64 x1, .int .i64 x2]).drewN 1)∧zAI (((wr.alloc (.cells #[.int .i64 0, .int .i64 0, .int .i64 0] 27)).setRow X #[.int .i64 x0, .int .i64 x1, .int .i64 x2]).drewN 1) X 27 #[.int .i64 x0, .int .i64 x1, .int .i64 x2]∧w.heap.size+2≤X):=zy (by
     subst hX
     exact KP.out _ _ ⟨hW.keep (below_setRow ((Below.refl _ wr).alloc (Nat.le_refl _) _) (Nat.le_refl _) _),H5.out.setRow _,by omega⟩ (below_drewN (Below.refl _ _) 1))
    have HX:=zy (fun W=>zPN x0 x1 x2 (by have:=zDd hcx;simp at this;omega) (by have:=zDd hcx;simp at this;omega) (by have:=zDe hcx;simp at this;omega) (by have:=zDe hcx;simp at this;omega) (by have:=zDc hcx;simp at this;omega) (by have:=zDc hcx;simp at this;omega) W)
    rw [show canB x0 x1 x2=true from hcx,if_pos rfl] at HX
    have HB:Hid (CanP (b0,b1,b2)→ ∀W,Calls Tryz.prog 19 #[.agg #[.int .i64 b0, .int .i64 b1, .int .i64 b2]] W fun e w'=>e= .returned (.int .i64 (zEO b0 b1 b2))∧Below W.heap.size W w'):=zy (fun hcan W=>by
     have h:=zPN b0 b1 b2 (by have:=zDd hcan;simp at this;omega) (by have:=zDd hcan;simp at this;omega) (by have:=zDe hcan;simp at this;omega) (by have:=zDe hcan;simp at this;omega) (by have:=zDc hcan;simp at this;omega) (by have:=zDc hcan;simp at this;omega) W
     rw [show canB b0 b1 b2=true from hcan,if_pos rfl] at h
     exact h)
    have HChE:Hid (chz k (b0,b1,b2) (x0,x1,x2)=if (k= -1∨k=x0)∧((b0,b1,b2)=((0:Int),(0:Int),(0:Int))∨zEO x0 x1 x2<zEO b0 b1 b2) then (x0,x1,x2) else (b0,b1,b2)):=zy rfl
    have HSt:Hid (chz k (b0,b1,b2) (x0,x1,x2)=(b0,b1,b2)→chF k (L.take (j+1))=(b0,b1,b2)):=zy (fun h=>by rw [HChz.out,h])
    have HTk:Hid (chz k (b0,b1,b2) (x0,x1,x2)=(x0,x1,x2)→chF k (L.take (j+1))=(x0,x1,x2)):=zy (fun h=>by rw [HChz.out,h])
    have HSZ:Hid (∀wz,(RcI w G L (b0,b1,b2) wz∧zAI wz X 27 #[.int .i64 x0, .int .i64 x1, .int .i64 x2]∧w.heap.size+2≤X)→(wz.cell? ⟨X,0,none⟩=some (.int .i64 x0)∧wz.cell? ⟨w.heap.size+1,1,none⟩=some (.int .i64 b1)∧zAI wz (w.heap.size+1) 27 #[.int .i64 b0, .int .i64 b1, .int .i64 b2]∧zAI wz X 27 #[.int .i64 x0, .int .i64 x1, .int .i64 x2])):=zy (fun wz hz=>⟨hz.2.1.cell rfl,hz.1.best.cell rfl,hz.1.best,hz.2.1⟩)
    obtain ⟨cx,hcxe⟩: ∃cx,cx=zEO x0 x1 x2:=⟨_,rfl⟩
    obtain ⟨cb,hcbe⟩: ∃cb,cb=zEO b0 b1 b2:=⟨_,rfl⟩
    rw [←hcxe] at HX HChE
    rw [←hcbe] at HB HChE
    have HCb:=zy hcb
    have hi1:(j:Int)<(L.length:Int):=by omega
    have tl:decide ((j:Int)<(L.length:Int))=true:=decide_eq_true hi1
    have HXe:=zy hX
    clear hcxe hcbe hcx hcb hx hb hW HChz hX HW
    go_upto_region 8 with (first|(refine wpList_load_mid rfl _ _ rfl _ _ rfl _ _ (HRa.out) Tryz.underlying27 rfl (by exact zT6) ?_)|(refine wpList_store_row rfl _ _ _ rfl _ _ rfl rfl _ _ (H5.out) (by exact zT6) rfl (zOs _ _ _) ?_))
    rw [←HXe.out]
    clear HXe H5
    by_cases hk:k= -1∨k=x0
    case neg=>
     have hk1:(k == -1)=false:=by rw [beq_eq_false_iff_ne];exact fun h=>hk (.inl h)
     have hk2:(k == x0)=false:=by rw [beq_eq_false_iff_ne];exact fun h=>hk (.inr h)
     have HT:Hid (chz k (b0,b1,b2) (x0,x1,x2)=(b0,b1,b2)):=zy (by rw [HChE.out,if_neg (fun h=>hk h.1)])
     clear hk HTk HChE HB HX HCb
     refine wp_region_held_drew (S:=fun wz=>wz.cell? ⟨X,0,none⟩=some (.int .i64 x0)∧wz.cell? ⟨w.heap.size+1,1,none⟩=some (.int .i64 b1)∧zAI wz (w.heap.size+1) 27 #[.int .i64 b0, .int .i64 b1, .int .i64 b2]∧zAI wz X 27 #[.int .i64 x0, .int .i64 x1, .int .i64 x2]) (by kernel_rfl) (HSZ.out _ z0.out) (fun hHeld=>?_)
     clear hHeld
     refine zj (i:=0) (v:=?_) rfl (by kernel_rfl) (fun _ _ _=>id) (by rfl) ?_ (HSZ.out _ z0.out) ?_
     rotate_left
     ·intro w h;go_simp;try with_reducible rfl
     try simp only [zv,zx]
     refine zj (i:=1) (v:=?_) rfl (by kernel_rfl) (fun _ _ _=>id) (by rfl) ?_ (HSZ.out _ z0.out) ?_
     rotate_left
     ·intro w h;go_simp;try with_reducible rfl
     try simp only [zv,zx]
     refine zj (i:=2) (v:=?_) rfl (by kernel_rfl) (fun _ _ _=>id) (by rfl) ?_ (HSZ.out _ z0.out) ?_
     rotate_left
     ·intro w h;go_simp;try with_reducible rfl
     try simp only [zv,zx]
     refine zj (i:=3) (v:=?_) rfl (by kernel_rfl) (fun _ _ _=>id) (by rfl) ?_ (HSZ.out _ z0.out) ?_
     rotate_left
     ·intro w h;go_simp;try with_reducible rfl
     try simp only [zv,zx]
     refine zj (i:=4) (v:=?_) rfl (by kernel_rfl) (fun _ _ _=>id) (by rfl) ?_ (HSZ.out _ z0.out) ?_
     rotate_left
     ·intro w h;go_simp;try with_reducible rfl
     try simp only [zv,zx]
     refine zj (i:=5) (v:=?_) rfl (by kernel_rfl) (fun _ _ _=>id) (by rfl) ?_ (HSZ.out _ z0.out) ?_
     rotate_left
     ·intro w h;go_simp;try with_reducible rfl
     try simp only [zv,zx]
     refine zj (i:=6) (v:=?_) rfl (by kernel_rfl) (fun _ _ _=>id) (by rfl) ?_ (HSZ.out _ z0.out) ?_
     rotate_left
     ·intro w h;go_simp;try with_reducible rfl
     try simp only [zv,zx]
     refine zj (i:=7) (v:=?_) rfl (by kernel_rfl) (fun _ _ _=>id) (by rfl) ?_ (HSZ.out _ z0.out) ?_
     rotate_left
     ·intro w h;go_simp;try with_reducible rfl
     try simp only [zv,zx]
     refine zj (i:=8) (v:=?_) rfl (by kernel_rfl) (fun _ _ _=>id) (by rfl) ?_ (HSZ.out _ z0.out) ?_
     rotate_left
     ·intro w h;go_simp;try with_reducible rfl
     try simp only [zv,zx]
     refine zKx (i:=9) rfl (by kernel_rfl) (fun _ _ _=>id) (by rfl) (HSZ.out _ z0.out) ?_
     try simp only [zv,zx]
     refine zKx (i:=10) rfl (by kernel_rfl) (fun _ _ _=>id) (by rfl) (HSZ.out _ z0.out) ?_
     try simp only [zv,zx]
     refine zKx (i:=11) rfl (by kernel_rfl) (fun _ _ _=>id) (by rfl) (HSZ.out _ z0.out) ?_
     try simp only [zv,zx]
     refine zKx (i:=12) rfl (by kernel_rfl) (fun _ _ _=>id) (by rfl) (HSZ.out _ z0.out) ?_
     try simp only [zv,zx]
     refine zKx (i:=13) rfl (by kernel_rfl) (fun _ _ _=>id) (by rfl) (HSZ.out _ z0.out) ?_
     try simp only [zv,zx]
     refine zKx (i:=14) rfl (by kernel_rfl) (fun _ _ _=>id) (by rfl) (HSZ.out _ z0.out) ?_
     try simp only [zv,zx]
     refine zKx (i:=15) rfl (by kernel_rfl) (fun _ _ _=>id) (by rfl) (HSZ.out _ z0.out) ?_
     try simp only [zv,zx]
     refine zKx (i:=16) rfl (by kernel_rfl) (fun _ _ _=>id) (by rfl) (HSZ.out _ z0.out) ?_
     try simp only [zv,zx]
     refine zKx (i:=17) rfl (by kernel_rfl) (fun _ _ _=>id) (by rfl) (HSZ.out _ z0.out) ?_
     try simp only [zv,zx]
     refine zKx (i:=18) rfl (by kernel_rfl) (fun _ _ _=>id) (by rfl) (HSZ.out _ z0.out) ?_
     try simp only [zv,zx]
     refine zj (i:=19) (v:=?_) rfl (by kernel_rfl) (fun _ _ _=>id) (by rfl) ?_ (HSZ.out _ z0.out) ?_
     rotate_left
     ·intro w h;go_simp;try with_reducible rfl
     try simp only [zv,zx]
     refine wpAnyH_done (by kernel_rfl) ?_ _
     have HF:Hid (RcI w G L (chF k (L.take (j+1))) _):=zy (by rw [HSt.out HT.out];exact z0.out.1)
     go_wp2
     go_roundw
     case rel=>exact ⟨j+1,by go_num,by omega,HF.out⟩
     case measure=>simp [intOf];omega
    case pos=>
     by_cases hz:b1=0
     ·have h0:(b0,b1,b2)=((0:Int),(0:Int),(0:Int)):=HCb.out.resolve_right (fun h=>by have:=zDe h;simp at this;omega)
      have HT:Hid (chz k (b0,b1,b2) (x0,x1,x2)=(x0,x1,x2)):=zy (by rw [HChE.out,if_pos ⟨hk, .inl h0⟩])
      injection h0 with e0 e1
      injection e1 with e1 e2
      subst e0;subst e1;subst e2
      clear hz HSt HChE HB HX HCb
      by_cases hk1:k= -1
      ·have hk1t:(k == -1)=true:=by simpa using hk1
       clear hk hk1
       refine wp_region_held_drew (S:=fun wz=>wz.cell? ⟨X,0,none⟩=some (.int .i64 x0)∧wz.cell? ⟨w.heap.size+1,1,none⟩=some (.int .i64 0)∧zAI wz (w.heap.size+1) 27 #[.int .i64 0, .int .i64 0, .int .i64 0]∧zAI wz X 27 #[.int .i64 x0, .int .i64 x1, .int .i64 x2]) (by kernel_rfl) (HSZ.out _ z0.out) (fun hHeld=>?_)
       clear hHeld
       refine zj (i:=0) (v:=?_) rfl (by kernel_rfl) (fun _ _ _=>id) (by rfl) ?_ (HSZ.out _ z0.out) ?_
       rotate_left
       ·intro w h;go_simp;try with_reducible rfl
       try simp only [zv,zx]
       refine zj (i:=1) (v:=?_) rfl (by kernel_rfl) (fun _ _ _=>id) (by rfl) ?_ (HSZ.out _ z0.out) ?_
       rotate_left
       ·intro w h;go_simp;try with_reducible rfl
       try simp only [zv,zx]
       refine zj (i:=2) (v:=?_) rfl (by kernel_rfl) (fun _ _ _=>id) (by rfl) ?_ (HSZ.out _ z0.out) ?_
       rotate_left
       ·intro w h;go_simp;try with_reducible rfl
       try simp only [zv,zx]
       refine zKx (i:=3) rfl (by kernel_rfl) (fun _ _ _=>id) (by rfl) (HSZ.out _ z0.out) ?_
       try simp only [zv,zx]
       refine zKx (i:=4) rfl (by kernel_rfl) (fun _ _ _=>id) (by rfl) (HSZ.out _ z0.out) ?_
       try simp only [zv,zx]
       refine zKx (i:=5) rfl (by kernel_rfl) (fun _ _ _=>id) (by rfl) (HSZ.out _ z0.out) ?_
       try simp only [zv,zx]
       refine zKx (i:=6) rfl (by kernel_rfl) (fun _ _ _=>id) (by rfl) (HSZ.out _ z0.out) ?_
       try simp only [zv,zx]
       refine zj (i:=7) (v:=?_) rfl (by kernel_rfl) (fun _ _ _=>id) (by rfl) ?_ (HSZ.out _ z0.out) ?_
       rotate_left
       ·intro w h;go_simp;try with_reducible rfl
       try simp only [zv,zx]
       refine zj (i:=8) (v:=?_) rfl (by kernel_rfl) (fun _ _ _=>id) (by rfl) ?_ (HSZ.out _ z0.out) ?_
       rotate_left
       ·intro w h;go_simp;try with_reducible rfl
       try simp only [zv,zx]
       refine zj (i:=9) (v:=?_) rfl (by kernel_rfl) (fun _ _ _=>id) (by rfl) ?_ (HSZ.out _ z0.out) ?_
       rotate_left
       ·intro w h;go_simp;try with_reducible rfl
       try simp only [zv,zx]
       refine zj (i:=10) (v:=?_) rfl (by kernel_rfl) (fun _ _ _=>id) (by rfl) ?_ (HSZ.out _ z0.out) ?_
       rotate_left
       ·intro w h;go_simp;try with_reducible rfl
       try simp only [zv,zx]
       refine zj (i:=11) (v:=?_) rfl (by kernel_rfl) (fun _ _ _=>id) (by rfl) ?_ (HSZ.out _ z0.out) ?_
       rotate_left
       ·intro w h;go_simp;try with_reducible rfl
       try simp only [zv,zx]
       refine zj (i:=12) (v:=?_) rfl (by kernel_rfl) (fun _ _ _=>id) (by rfl) ?_ (HSZ.out _ z0.out) ?_
       rotate_left
       ·intro w h;go_simp;try with_reducible rfl
       try simp only [zv,zx]
       refine zKx (i:=13) rfl (by kernel_rfl) (fun _ _ _=>id) (by rfl) (HSZ.out _ z0.out) ?_
       try simp only [zv,zx]
       refine zKx (i:=14) rfl (by kernel_rfl) (fun _ _ _=>id) (by rfl) (HSZ.out _ z0.out) ?_
       try simp only [zv,zx]
       refine zKx (i:=15) rfl (by kernel_rfl) (fun _ _ _=>id) (by rfl) (HSZ.out _ z0.out) ?_
       try simp only [zv,zx]
       refine zKx (i:=16) rfl (by kernel_rfl) (fun _ _ _=>id) (by rfl) (HSZ.out _ z0.out) ?_
       try simp only [zv,zx]
       refine zKx (i:=17) rfl (by kernel_rfl) (fun _ _ _=>id) (by rfl) (HSZ.out _ z0.out) ?_
       try simp only [zv,zx]
       refine zj (i:=18) (v:=?_) rfl (by kernel_rfl) (fun _ _ _=>id) (by rfl) ?_ (HSZ.out _ z0.out) ?_
       rotate_left
       ·intro w h;go_simp;try with_reducible rfl
       try simp only [zv,zx]
       refine zj (i:=19) (v:=?_) rfl (by kernel_rfl) (fun _ _ _=>id) (by rfl) ?_ (HSZ.out _ z0.out) ?_
       rotate_left
       ·intro w h;go_simp;try with_reducible rfl
       try simp only [zv,zx]
       refine wpAnyH_done (by kernel_rfl) ?_ _
       have HF:Hid (RcI w G L (chF k (L.take (j+1))) (World.setRow _ (w.heap.size+1) #[.int .i64 x0, .int .i64 x1, .int .i64 x2])):=zy (by rw [HTk.out HT.out];exact z0.out.1.set (x0,x1,x2))
       go_wp2_with (first|(refine wpList_load_row rfl _ _ rfl _ rfl _ _ _ _ (z0.out.2.1) Tryz.underlying27 rfl (by exact zT6) ?_)|(refine wpList_store_row rfl _ _ _ rfl _ _ rfl rfl _ _ (z0.out.1.best) (by exact zT6) rfl (zOs _ _ _) ?_))
       go_roundw
       case rel=>exact ⟨j+1,by go_num,by omega,HF.out⟩
       case measure=>simp [intOf];omega
      ·have hk:=hk.resolve_left hk1
       have hk1f:(k == -1)=false:=by rw [beq_eq_false_iff_ne];exact hk1
       have hk2t:(k == x0)=true:=by simpa using hk
       clear hk hk1
       refine wp_region_held_drew (S:=fun wz=>wz.cell? ⟨X,0,none⟩=some (.int .i64 x0)∧wz.cell? ⟨w.heap.size+1,1,none⟩=some (.int .i64 0)∧zAI wz (w.heap.size+1) 27 #[.int .i64 0, .int .i64 0, .int .i64 0]∧zAI wz X 27 #[.int .i64 x0, .int .i64 x1, .int .i64 x2]) (by kernel_rfl) (HSZ.out _ z0.out) (fun hHeld=>?_)
       clear hHeld
       refine zj (i:=0) (v:=?_) rfl (by kernel_rfl) (fun _ _ _=>id) (by rfl) ?_ (HSZ.out _ z0.out) ?_
       rotate_left
       ·intro w h;go_simp;try with_reducible rfl
       try simp only [zv,zx]
       refine zj (i:=1) (v:=?_) rfl (by kernel_rfl) (fun _ _ _=>id) (by rfl) ?_ (HSZ.out _ z0.out) ?_
       rotate_left
       ·intro w h;go_simp;try with_reducible rfl
       try simp only [zv,zx]
       refine zj (i:=2) (v:=?_) rfl (by kernel_rfl) (fun _ _ _=>id) (by rfl) ?_ (HSZ.out _ z0.out) ?_
       rotate_left
       ·intro w h;go_simp;try with_reducible rfl
       try simp only [zv,zx]
       refine zj (i:=3) (v:=?_) rfl (by kernel_rfl) (fun _ _ _=>id) (by rfl) ?_ (HSZ.out _ z0.out) ?_
       rotate_left
       ·intro w h;go_simp;try with_reducible rfl
       try simp only [zv,zx]
       refine zj (i:=4) (v:=?_) rfl (by kernel_rfl) (fun _ _ _=>id) (by rfl) ?_ (HSZ.out _ z0.out) ?_
       rotate_left
       ·intro w h;go_simp;try with_reducible rfl
       try simp only [zv,zx]
       refine zj (i:=5) (v:=?_) rfl (by kernel_rfl) (fun _ _ _=>id) (by rfl) ?_ (HSZ.out _ z0.out) ?_
       rotate_left
       ·intro w h;go_simp;try with_reducible rfl
       try simp only [zv,zx]
       refine zj (i:=6) (v:=?_) rfl (by kernel_rfl) (fun _ _ _=>id) (by rfl) ?_ (HSZ.out _ z0.out) ?_
       rotate_left
       ·intro w h;go_simp;try with_reducible rfl
       try simp only [zv,zx]
       refine zj (i:=7) (v:=?_) rfl (by kernel_rfl) (fun _ _ _=>id) (by rfl) ?_ (HSZ.out _ z0.out) ?_
       rotate_left
       ·intro w h;go_simp;try with_reducible rfl
       try simp only [zv,zx]
       refine zj (i:=8) (v:=?_) rfl (by kernel_rfl) (fun _ _ _=>id) (by rfl) ?_ (HSZ.out _ z0.out) ?_
       rotate_left
       ·intro w h;go_simp;try with_reducible rfl
       try simp only [zv,zx]
       refine zj (i:=9) (v:=?_) rfl (by kernel_rfl) (fun _ _ _=>id) (by rfl) ?_ (HSZ.out _ z0.out) ?_
       rotate_left
       ·intro w h;go_simp;try with_reducible rfl
       try simp only [zv,zx]
       refine zj (i:=10) (v:=?_) rfl (by kernel_rfl) (fun _ _ _=>id) (by rfl) ?_ (HSZ.out _ z0.out) ?_
       rotate_left
       ·intro w h;go_simp;try with_reducible rfl
       try simp only [zv,zx]
       refine zj (i:=11) (v:=?_) rfl (by kernel_rfl) (fun _ _ _=>id) (by rfl) ?_ (HSZ.out _ z0.out) ?_
       rotate_left
       ·intro w h;go_simp;try with_reducible rfl
       try simp only [zv,zx]
       refine zj (i:=12) (v:=?_) rfl (by kernel_rfl) (fun _ _ _=>id) (by rfl) ?_ (HSZ.out _ z0.out) ?_
       rotate_left
       ·intro w h;go_simp;try with_reducible rfl
       try simp only [zv,zx]
       refine zKx (i:=13) rfl (by kernel_rfl) (fun _ _ _=>id) (by rfl) (HSZ.out _ z0.out) ?_
       try simp only [zv,zx]
       refine zKx (i:=14) rfl (by kernel_rfl) (fun _ _ _=>id) (by rfl) (HSZ.out _ z0.out) ?_
       try simp only [zv,zx]
       refine zKx (i:=15) rfl (by kernel_rfl) (fun _ _ _=>id) (by rfl) (HSZ.out _ z0.out) ?_
       try simp only [zv,zx]
       refine zKx (i:=16) rfl (by kernel_rfl) (fun _ _ _=>id) (by rfl) (HSZ.out _ z0.out) ?_
       try simp only [zv,zx]
       refine zKx (i:=17) rfl (by kernel_rfl) (fun _ _ _=>id) (by rfl) (HSZ.out _ z0.out) ?_
       try simp only [zv,zx]
       refine zj (i:=18) (v:=?_) rfl (by kernel_rfl) (fun _ _ _=>id) (by rfl) ?_ (HSZ.out _ z0.out) ?_
       rotate_left
       ·intro w h;go_simp;try with_reducible rfl
       try simp only [zv,zx]
       refine zj (i:=19) (v:=?_) rfl (by kernel_rfl) (fun _ _ _=>id) (by rfl) ?_ (HSZ.out _ z0.out) ?_
       rotate_left
       ·intro w h;go_simp;try with_reducible rfl
       try simp only [zv,zx]
       refine wpAnyH_done (by kernel_rfl) ?_ _
       have HF:Hid (RcI w G L (chF k (L.take (j+1))) (World.setRow _ (w.heap.size+1) #[.int .i64 x0, .int .i64 x1, .int .i64 x2])):=zy (by rw [HTk.out HT.out];exact z0.out.1.set (x0,x1,x2))
       go_wp2_with (first|(refine wpList_load_row rfl _ _ rfl _ rfl _ _ _ _ (z0.out.2.1) Tryz.underlying27 rfl (by exact zT6) ?_)|(refine wpList_store_row rfl _ _ _ rfl _ _ rfl rfl _ _ (z0.out.1.best) (by exact zT6) rfl (zOs _ _ _) ?_))
       go_roundw
       case rel=>exact ⟨j+1,by go_num,by omega,HF.out⟩
       case measure=>simp [intOf];omega
     ·have hcan:CanP (b0,b1,b2):=HCb.out.resolve_left (fun h=>hz (by injection h with h1 h2;injection h2 with h2 h3))
      have HB:=zy (HB.out hcan)
      have hz1:(b1 == 0)=false:=by simpa using hz
      have hzz: ¬(b0,b1,b2)=((0:Int),(0:Int),(0:Int)):=fun h=>hz (by injection h with h1 h2;injection h2 with h2 h3)
      by_cases hlt:cx<cb
      ·have td:decide (cx<cb)=true:=decide_eq_true hlt
       have HT:Hid (chz k (b0,b1,b2) (x0,x1,x2)=(x0,x1,x2)):=zy (by rw [HChE.out,if_pos ⟨hk, .inr hlt⟩])
       clear HSt HChE hz hzz hcan HCb hlt
       by_cases hk1:k= -1
       ·have hk1t:(k == -1)=true:=by simpa using hk1
        clear hk hk1
        refine wp_region_held_drew (S:=fun wz=>wz.cell? ⟨X,0,none⟩=some (.int .i64 x0)∧wz.cell? ⟨w.heap.size+1,1,none⟩=some (.int .i64 b1)∧zAI wz (w.heap.size+1) 27 #[.int .i64 b0, .int .i64 b1, .int .i64 b2]∧zAI wz X 27 #[.int .i64 x0, .int .i64 x1, .int .i64 x2]) (by kernel_rfl) (HSZ.out _ z0.out) (fun hHeld=>?_)
        clear hHeld
        refine zj (i:=0) (v:=?_) rfl (by kernel_rfl) (fun _ _ _=>id) (by rfl) ?_ (HSZ.out _ z0.out) ?_
        rotate_left
        ·intro w h;go_simp;try with_reducible rfl
        try simp only [zv,zx]
        refine zj (i:=1) (v:=?_) rfl (by kernel_rfl) (fun _ _ _=>id) (by rfl) ?_ (HSZ.out _ z0.out) ?_
        rotate_left
        ·intro w h;go_simp;try with_reducible rfl
        try simp only [zv,zx]
        refine zj (i:=2) (v:=?_) rfl (by kernel_rfl) (fun _ _ _=>id) (by rfl) ?_ (HSZ.out _ z0.out) ?_
        rotate_left
        ·intro w h;go_simp;try with_reducible rfl
        try simp only [zv,zx]
        refine zKx (i:=3) rfl (by kernel_rfl) (fun _ _ _=>id) (by rfl) (HSZ.out _ z0.out) ?_
        try simp only [zv,zx]
        refine zKx (i:=4) rfl (by kernel_rfl) (fun _ _ _=>id) (by rfl) (HSZ.out _ z0.out) ?_
        try simp only [zv,zx]
        refine zKx (i:=5) rfl (by kernel_rfl) (fun _ _ _=>id) (by rfl) (HSZ.out _ z0.out) ?_
        try simp only [zv,zx]
        refine zKx (i:=6) rfl (by kernel_rfl) (fun _ _ _=>id) (by rfl) (HSZ.out _ z0.out) ?_
        try simp only [zv,zx]
        refine zj (i:=7) (v:=?_) rfl (by kernel_rfl) (fun _ _ _=>id) (by rfl) ?_ (HSZ.out _ z0.out) ?_
        rotate_left
        ·intro w h;go_simp;try with_reducible rfl
        try simp only [zv,zx]
        refine zj (i:=8) (v:=?_) rfl (by kernel_rfl) (fun _ _ _=>id) (by rfl) ?_ (HSZ.out _ z0.out) ?_
        rotate_left
        ·intro w h;go_simp;try with_reducible rfl
        try simp only [zv,zx]
        refine zj (i:=9) (v:=?_) rfl (by kernel_rfl) (fun _ _ _=>id) (by rfl) ?_ (HSZ.out _ z0.out) ?_
        rotate_left
        ·intro w h;go_simp;try with_reducible rfl
        try simp only [zv,zx]
        refine zj (i:=10) (v:=?_) rfl (by kernel_rfl) (fun _ _ _=>id) (by rfl) ?_ (HSZ.out _ z0.out) ?_
        rotate_left
        ·intro w h;go_simp;try with_reducible rfl
        try simp only [zv,zx]
        refine zj (i:=11) (v:=?_) rfl (by kernel_rfl) (fun _ _ _=>id) (by rfl) ?_ (HSZ.out _ z0.out) ?_
        rotate_left
        ·intro w h;go_simp;try with_reducible rfl
        try simp only [zv,zx]
        refine zj (i:=12) (v:=?_) rfl (by kernel_rfl) (fun _ _ _=>id) (by rfl) ?_ (HSZ.out _ z0.out) ?_
        rotate_left
        ·intro w h;go_simp;try with_reducible rfl
        try simp only [zv,zx]
        refine zQ (i:=13) rfl (by kernel_rfl) (fun _ _ _=>id) (zXh (by rfl) _ _ rfl _ rfl _ _ _ (fun wz h=>h.2.2.2) Tryz.underlying27 rfl (by exact zT6)) (HSZ.out _ z0.out) ?_
        try simp only [zv,zx]
        refine zQ (i:=15) rfl (by kernel_rfl) (fun _ _ _=>id) (zXh (by rfl) _ _ rfl _ rfl _ _ _ (fun wz h=>h.2.2.1) Tryz.underlying27 rfl (by exact zT6)) (HSZ.out _ z0.out) ?_
        try simp only [zv,zx]
        refine wpAnyH_ready (rs:= [14]) (by kernel_rfl) (by simp) ?_
        refine AllReadyH.cons rfl (fun K hK=>?_) AllReadyH.nil
        try simp only [zx]
        rw [if_pos (by rfl)]
        go_wp2_with (go_at_call 19;refine (HX.out _).mono ?_;rintro e w8 ⟨rfl,hY⟩)
        have z8:=zy (KP.out _ _ z0.out hY)
        clear hY
        refine hK.out _ _ ((HSZ.out _ z8.out)) (fun _=>?_)
        clear hK K
        try simp only [zv,zx]
        refine wpAnyH_ready (rs:= [16]) (by kernel_rfl) (by simp) ?_
        refine AllReadyH.cons rfl (fun K hK=>?_) AllReadyH.nil
        try simp only [zx]
        rw [if_pos (by rfl)]
        go_wp2_with (go_at_call 19;refine (HB.out _).mono ?_;rintro e w9 ⟨rfl,hY⟩)
        have z9:=zy (KP.out _ _ z8.out hY)
        clear hY
        refine hK.out _ _ ((HSZ.out _ z9.out)) (fun _=>?_)
        clear hK K
        try simp only [zv,zx]
        refine zj (i:=17) (v:=?_) rfl (by kernel_rfl) (fun _ _ _=>id) (by rfl) ?_ (HSZ.out _ z9.out) ?_
        rotate_left
        ·intro w h;go_simp;try with_reducible rfl
        try simp only [zv,zx]
        refine zj (i:=18) (v:=?_) rfl (by kernel_rfl) (fun _ _ _=>id) (by rfl) ?_ (HSZ.out _ z9.out) ?_
        rotate_left
        ·intro w h;go_simp;try with_reducible rfl
        try simp only [zv,zx]
        refine zj (i:=19) (v:=?_) rfl (by kernel_rfl) (fun _ _ _=>id) (by rfl) ?_ (HSZ.out _ z9.out) ?_
        rotate_left
        ·intro w h;go_simp;try with_reducible rfl
        try simp only [zv,zx]
        refine wpAnyH_done (by kernel_rfl) ?_ _
        have HF:Hid (RcI w G L (chF k (L.take (j+1))) (World.setRow _ (w.heap.size+1) #[.int .i64 x0, .int .i64 x1, .int .i64 x2])):=zy (by rw [HTk.out HT.out];exact z9.out.1.set (x0,x1,x2))
        go_wp2_with (first|(refine wpList_load_row rfl _ _ rfl _ rfl _ _ _ _ (z9.out.2.1) Tryz.underlying27 rfl (by exact zT6) ?_)|(refine wpList_store_row rfl _ _ _ rfl _ _ rfl rfl _ _ (z9.out.1.best) (by exact zT6) rfl (zOs _ _ _) ?_))
        go_roundw
        case rel=>exact ⟨j+1,by go_num,by omega,HF.out⟩
        case measure=>simp [intOf];omega
       ·have hk:=hk.resolve_left hk1
        have hk1f:(k == -1)=false:=by rw [beq_eq_false_iff_ne];exact hk1
        have hk2t:(k == x0)=true:=by simpa using hk
        clear hk hk1
        refine wp_region_held_drew (S:=fun wz=>wz.cell? ⟨X,0,none⟩=some (.int .i64 x0)∧wz.cell? ⟨w.heap.size+1,1,none⟩=some (.int .i64 b1)∧zAI wz (w.heap.size+1) 27 #[.int .i64 b0, .int .i64 b1, .int .i64 b2]∧zAI wz X 27 #[.int .i64 x0, .int .i64 x1, .int .i64 x2]) (by kernel_rfl) (HSZ.out _ z0.out) (fun hHeld=>?_)
        clear hHeld
        refine zj (i:=0) (v:=?_) rfl (by kernel_rfl) (fun _ _ _=>id) (by rfl) ?_ (HSZ.out _ z0.out) ?_
        rotate_left
        ·intro w h;go_simp;try with_reducible rfl
        try simp only [zv,zx]
        refine zj (i:=1) (v:=?_) rfl (by kernel_rfl) (fun _ _ _=>id) (by rfl) ?_ (HSZ.out _ z0.out) ?_
        rotate_left
        ·intro w h;go_simp;try with_reducible rfl
        try simp only [zv,zx]
        refine zj (i:=2) (v:=?_) rfl (by kernel_rfl) (fun _ _ _=>id) (by rfl) ?_ (HSZ.out _ z0.out) ?_
        rotate_left
        ·intro w h;go_simp;try with_reducible rfl
        try simp only [zv,zx]
        refine zj (i:=3) (v:=?_) rfl (by kernel_rfl) (fun _ _ _=>id) (by rfl) ?_ (HSZ.out _ z0.out) ?_
        rotate_left
        ·intro w h;go_simp;try with_reducible rfl
        try simp only [zv,zx]
        refine zj (i:=4) (v:=?_) rfl (by kernel_rfl) (fun _ _ _=>id) (by rfl) ?_ (HSZ.out _ z0.out) ?_
        rotate_left
        ·intro w h;go_simp;try with_reducible rfl
        try simp only [zv,zx]
        refine zj (i:=5) (v:=?_) rfl (by kernel_rfl) (fun _ _ _=>id) (by rfl) ?_ (HSZ.out _ z0.out) ?_
        rotate_left
        ·intro w h;go_simp;try with_reducible rfl
        try simp only [zv,zx]
        refine zj (i:=6) (v:=?_) rfl (by kernel_rfl) (fun _ _ _=>id) (by rfl) ?_ (HSZ.out _ z0.out) ?_
        rotate_left
        ·intro w h;go_simp;try with_reducible rfl
        try simp only [zv,zx]
        refine zj (i:=7) (v:=?_) rfl (by kernel_rfl) (fun _ _ _=>id) (by rfl) ?_ (HSZ.out _ z0.out) ?_
        rotate_left
        ·intro w h;go_simp;try with_reducible rfl
        try simp only [zv,zx]
        refine zj (i:=8) (v:=?_) rfl (by kernel_rfl) (fun _ _ _=>id) (by rfl) ?_ (HSZ.out _ z0.out) ?_
        rotate_left
        ·intro w h;go_simp;try with_reducible rfl
        try simp only [zv,zx]
        refine zj (i:=9) (v:=?_) rfl (by kernel_rfl) (fun _ _ _=>id) (by rfl) ?_ (HSZ.out _ z0.out) ?_
        rotate_left
        ·intro w h;go_simp;try with_reducible rfl
        try simp only [zv,zx]
        refine zj (i:=10) (v:=?_) rfl (by kernel_rfl) (fun _ _ _=>id) (by rfl) ?_ (HSZ.out _ z0.out) ?_
        rotate_left
        ·intro w h;go_simp;try with_reducible rfl
        try simp only [zv,zx]
        refine zj (i:=11) (v:=?_) rfl (by kernel_rfl) (fun _ _ _=>id) (by rfl) ?_ (HSZ.out _ z0.out) ?_
        rotate_left
        ·intro w h;go_simp;try with_reducible rfl
        try simp only [zv,zx]
        refine zj (i:=12) (v:=?_) rfl (by kernel_rfl) (fun _ _ _=>id) (by rfl) ?_ (HSZ.out _ z0.out) ?_
        rotate_left
        ·intro w h;go_simp;try with_reducible rfl
        try simp only [zv,zx]
        refine zQ (i:=13) rfl (by kernel_rfl) (fun _ _ _=>id) (zXh (by rfl) _ _ rfl _ rfl _ _ _ (fun wz h=>h.2.2.2) Tryz.underlying27 rfl (by exact zT6)) (HSZ.out _ z0.out) ?_
        try simp only [zv,zx]
        refine zQ (i:=15) rfl (by kernel_rfl) (fun _ _ _=>id) (zXh (by rfl) _ _ rfl _ rfl _ _ _ (fun wz h=>h.2.2.1) Tryz.underlying27 rfl (by exact zT6)) (HSZ.out _ z0.out) ?_
        try simp only [zv,zx]
        refine wpAnyH_ready (rs:= [14]) (by kernel_rfl) (by simp) ?_
        refine AllReadyH.cons rfl (fun K hK=>?_) AllReadyH.nil
        try simp only [zx]
        rw [if_pos (by rfl)]
        go_wp2_with (go_at_call 19;refine (HX.out _).mono ?_;rintro e w8 ⟨rfl,hY⟩)
        have z8:=zy (KP.out _ _ z0.out hY)
        clear hY
        refine hK.out _ _ ((HSZ.out _ z8.out)) (fun _=>?_)
        clear hK K
        try simp only [zv,zx]
        refine wpAnyH_ready (rs:= [16]) (by kernel_rfl) (by simp) ?_
        refine AllReadyH.cons rfl (fun K hK=>?_) AllReadyH.nil
        try simp only [zx]
        rw [if_pos (by rfl)]
        go_wp2_with (go_at_call 19;refine (HB.out _).mono ?_;rintro e w9 ⟨rfl,hY⟩)
        have z9:=zy (KP.out _ _ z8.out hY)
        clear hY
        refine hK.out _ _ ((HSZ.out _ z9.out)) (fun _=>?_)
        clear hK K
        try simp only [zv,zx]
        refine zj (i:=17) (v:=?_) rfl (by kernel_rfl) (fun _ _ _=>id) (by rfl) ?_ (HSZ.out _ z9.out) ?_
        rotate_left
        ·intro w h;go_simp;try with_reducible rfl
        try simp only [zv,zx]
        refine zj (i:=18) (v:=?_) rfl (by kernel_rfl) (fun _ _ _=>id) (by rfl) ?_ (HSZ.out _ z9.out) ?_
        rotate_left
        ·intro w h;go_simp;try with_reducible rfl
        try simp only [zv,zx]
        refine zj (i:=19) (v:=?_) rfl (by kernel_rfl) (fun _ _ _=>id) (by rfl) ?_ (HSZ.out _ z9.out) ?_
        rotate_left
        ·intro w h;go_simp;try with_reducible rfl
        try simp only [zv,zx]
        refine wpAnyH_done (by kernel_rfl) ?_ _
        have HF:Hid (RcI w G L (chF k (L.take (j+1))) (World.setRow _ (w.heap.size+1) #[.int .i64 x0, .int .i64 x1, .int .i64 x2])):=zy (by rw [HTk.out HT.out];exact z9.out.1.set (x0,x1,x2))
        go_wp2_with (first|(refine wpList_load_row rfl _ _ rfl _ rfl _ _ _ _ (z9.out.2.1) Tryz.underlying27 rfl (by exact zT6) ?_)|(refine wpList_store_row rfl _ _ _ rfl _ _ rfl rfl _ _ (z9.out.1.best) (by exact zT6) rfl (zOs _ _ _) ?_))
        go_roundw
        case rel=>exact ⟨j+1,by go_num,by omega,HF.out⟩
        case measure=>simp [intOf];omega
      ·have td:decide (cx<cb)=false:=decide_eq_false hlt
       have HT:Hid (chz k (b0,b1,b2) (x0,x1,x2)=(b0,b1,b2)):=zy (by rw [HChE.out,if_neg (fun h=>h.2.elim hzz hlt)])
       clear HTk HChE hz hzz hcan HCb hlt
       by_cases hk1:k= -1
       ·have hk1t:(k == -1)=true:=by simpa using hk1
        clear hk hk1
        refine wp_region_held_drew (S:=fun wz=>wz.cell? ⟨X,0,none⟩=some (.int .i64 x0)∧wz.cell? ⟨w.heap.size+1,1,none⟩=some (.int .i64 b1)∧zAI wz (w.heap.size+1) 27 #[.int .i64 b0, .int .i64 b1, .int .i64 b2]∧zAI wz X 27 #[.int .i64 x0, .int .i64 x1, .int .i64 x2]) (by kernel_rfl) (HSZ.out _ z0.out) (fun hHeld=>?_)
        clear hHeld
        refine zj (i:=0) (v:=?_) rfl (by kernel_rfl) (fun _ _ _=>id) (by rfl) ?_ (HSZ.out _ z0.out) ?_
        rotate_left
        ·intro w h;go_simp;try with_reducible rfl
        try simp only [zv,zx]
        refine zj (i:=1) (v:=?_) rfl (by kernel_rfl) (fun _ _ _=>id) (by rfl) ?_ (HSZ.out _ z0.out) ?_
        rotate_left
        ·intro w h;go_simp;try with_reducible rfl
        try simp only [zv,zx]
        refine zj (i:=2) (v:=?_) rfl (by kernel_rfl) (fun _ _ _=>id) (by rfl) ?_ (HSZ.out _ z0.out) ?_
        rotate_left
        ·intro w h;go_simp;try with_reducible rfl
        try simp only [zv,zx]
        refine zKx (i:=3) rfl (by kernel_rfl) (fun _ _ _=>id) (by rfl) (HSZ.out _ z0.out) ?_
        try simp only [zv,zx]
        refine zKx (i:=4) rfl (by kernel_rfl) (fun _ _ _=>id) (by rfl) (HSZ.out _ z0.out) ?_
        try simp only [zv,zx]
        refine zKx (i:=5) rfl (by kernel_rfl) (fun _ _ _=>id) (by rfl) (HSZ.out _ z0.out) ?_
        try simp only [zv,zx]
        refine zKx (i:=6) rfl (by kernel_rfl) (fun _ _ _=>id) (by rfl) (HSZ.out _ z0.out) ?_
        try simp only [zv,zx]
        refine zj (i:=7) (v:=?_) rfl (by kernel_rfl) (fun _ _ _=>id) (by rfl) ?_ (HSZ.out _ z0.out) ?_
        rotate_left
        ·intro w h;go_simp;try with_reducible rfl
        try simp only [zv,zx]
        refine zj (i:=8) (v:=?_) rfl (by kernel_rfl) (fun _ _ _=>id) (by rfl) ?_ (HSZ.out _ z0.out) ?_
        rotate_left
        ·intro w h;go_simp;try with_reducible rfl
        try simp only [zv,zx]
        refine zj (i:=9) (v:=?_) rfl (by kernel_rfl) (fun _ _ _=>id) (by rfl) ?_ (HSZ.out _ z0.out) ?_
        rotate_left
        ·intro w h;go_simp;try with_reducible rfl
        try simp only [zv,zx]
        refine zj (i:=10) (v:=?_) rfl (by kernel_rfl) (fun _ _ _=>id) (by rfl) ?_ (HSZ.out _ z0.out) ?_
        rotate_left
        ·intro w h;go_simp;try with_reducible rfl
        try simp only [zv,zx]
        refine zj (i:=11) (v:=?_) rfl (by kernel_rfl) (fun _ _ _=>id) (by rfl) ?_ (HSZ.out _ z0.out) ?_
        rotate_left
        ·intro w h;go_simp;try with_reducible rfl
        try simp only [zv,zx]
        refine zj (i:=12) (v:=?_) rfl (by kernel_rfl) (fun _ _ _=>id) (by rfl) ?_ (HSZ.out _ z0.out) ?_
        rotate_left
        ·intro w h;go_simp;try with_reducible rfl
        try simp only [zv,zx]
        refine zQ (i:=13) rfl (by kernel_rfl) (fun _ _ _=>id) (zXh (by rfl) _ _ rfl _ rfl _ _ _ (fun wz h=>h.2.2.2) Tryz.underlying27 rfl (by exact zT6)) (HSZ.out _ z0.out) ?_
        try simp only [zv,zx]
        refine zQ (i:=15) rfl (by kernel_rfl) (fun _ _ _=>id) (zXh (by rfl) _ _ rfl _ rfl _ _ _ (fun wz h=>h.2.2.1) Tryz.underlying27 rfl (by exact zT6)) (HSZ.out _ z0.out) ?_
        try simp only [zv,zx]
        refine wpAnyH_ready (rs:= [14]) (by kernel_rfl) (by simp) ?_
        refine AllReadyH.cons rfl (fun K hK=>?_) AllReadyH.nil
        try simp only [zx]
        rw [if_pos (by rfl)]
        go_wp2_with (go_at_call 19;refine (HX.out _).mono ?_;rintro e w8 ⟨rfl,hY⟩)
        have z8:=zy (KP.out _ _ z0.out hY)
        clear hY
        refine hK.out _ _ ((HSZ.out _ z8.out)) (fun _=>?_)
        clear hK K
        try simp only [zv,zx]
        refine wpAnyH_ready (rs:= [16]) (by kernel_rfl) (by simp) ?_
        refine AllReadyH.cons rfl (fun K hK=>?_) AllReadyH.nil
        try simp only [zx]
        rw [if_pos (by rfl)]
        go_wp2_with (go_at_call 19;refine (HB.out _).mono ?_;rintro e w9 ⟨rfl,hY⟩)
        have z9:=zy (KP.out _ _ z8.out hY)
        clear hY
        refine hK.out _ _ ((HSZ.out _ z9.out)) (fun _=>?_)
        clear hK K
        try simp only [zv,zx]
        refine zj (i:=17) (v:=?_) rfl (by kernel_rfl) (fun _ _ _=>id) (by rfl) ?_ (HSZ.out _ z9.out) ?_
        rotate_left
        ·intro w h;go_simp;try with_reducible rfl
        try simp only [zv,zx]
        refine zj (i:=18) (v:=?_) rfl (by kernel_rfl) (fun _ _ _=>id) (by rfl) ?_ (HSZ.out _ z9.out) ?_
        rotate_left
        ·intro w h;go_simp;try with_reducible rfl
        try simp only [zv,zx]
        refine zj (i:=19) (v:=?_) rfl (by kernel_rfl) (fun _ _ _=>id) (by rfl) ?_ (HSZ.out _ z9.out) ?_
        rotate_left
        ·intro w h;go_simp;try with_reducible rfl
        try simp only [zv,zx]
        refine wpAnyH_done (by kernel_rfl) ?_ _
        have HF:Hid (RcI w G L (chF k (L.take (j+1))) _):=zy (by rw [HSt.out HT.out];exact z9.out.1)
        go_wp2
        go_roundw
        case rel=>exact ⟨j+1,by go_num,by omega,HF.out⟩
        case measure=>simp [intOf];omega
       ·have hk:=hk.resolve_left hk1
        have hk1f:(k == -1)=false:=by rw [beq_eq_false_iff_ne];exact hk1
        have hk2t:(k == x0)=true:=by simpa using hk
        clear hk hk1
        refine wp_region_held_drew (S:=fun wz=>wz.cell? ⟨X,0,none⟩=some (.int .i64 x0)∧wz.cell? ⟨w.heap.size+1,1,none⟩=some (.int .i64 b1)∧zAI wz (w.heap.size+1) 27 #[.int .i64 b0, .int .i64 b1, .int .i64 b2]∧zAI wz X 27 #[.int .i64 x0, .int .i64 x1, .int .i64 x2]) (by kernel_rfl) (HSZ.out _ z0.out) (fun hHeld=>?_)
        clear hHeld
        refine zj (i:=0) (v:=?_) rfl (by kernel_rfl) (fun _ _ _=>id) (by rfl) ?_ (HSZ.out _ z0.out) ?_
        rotate_left
        ·intro w h;go_simp;try with_reducible rfl
        try simp only [zv,zx]
        refine zj (i:=1) (v:=?_) rfl (by kernel_rfl) (fun _ _ _=>id) (by rfl) ?_ (HSZ.out _ z0.out) ?_
        rotate_left
        ·intro w h;go_simp;try with_reducible rfl
        try simp only [zv,zx]
        refine zj (i:=2) (v:=?_) rfl (by kernel_rfl) (fun _ _ _=>id) (by rfl) ?_ (HSZ.out _ z0.out) ?_
        rotate_left
        ·intro w h;go_simp;try with_reducible rfl
        try simp only [zv,zx]
        refine zj (i:=3) (v:=?_) rfl (by kernel_rfl) (fun _ _ _=>id) (by rfl) ?_ (HSZ.out _ z0.out) ?_
        rotate_left
        ·intro w h;go_simp;try with_reducible rfl
        try simp only [zv,zx]
        refine zj (i:=4) (v:=?_) rfl (by kernel_rfl) (fun _ _ _=>id) (by rfl) ?_ (HSZ.out _ z0.out) ?_
        rotate_left
        ·intro w h;go_simp;try with_reducible rfl
        try simp only [zv,zx]
        refine zj (i:=5) (v:=?_) rfl (by kernel_rfl) (fun _ _ _=>id) (by rfl) ?_ (HSZ.out _ z0.out) ?_
        rotate_left
        ·intro w h;go_simp;try with_reducible rfl
        try simp only [zv,zx]
        refine zj (i:=6) (v:=?_) rfl (by kernel_rfl) (fun _ _ _=>id) (by rfl) ?_ (HSZ.out _ z0.out) ?_
        rotate_left
        ·intro w h;go_simp;try with_reducible rfl
        try simp only [zv,zx]
        refine zj (i:=7) (v:=?_) rfl (by kernel_rfl) (fun _ _ _=>id) (by rfl) ?_ (HSZ.out _ z0.out) ?_
        rotate_left
        ·intro w h;go_simp;try with_reducible rfl
        try simp only [zv,zx]
        refine zj (i:=8) (v:=?_) rfl (by kernel_rfl) (fun _ _ _=>id) (by rfl) ?_ (HSZ.out _ z0.out) ?_
        rotate_left
        ·intro w h;go_simp;try with_reducible rfl
        try simp only [zv,zx]
        refine zj (i:=9) (v:=?_) rfl (by kernel_rfl) (fun _ _ _=>id) (by rfl) ?_ (HSZ.out _ z0.out) ?_
        rotate_left
        ·intro w h;go_simp;try with_reducible rfl
        try simp only [zv,zx]
        refine zj (i:=10) (v:=?_) rfl (by kernel_rfl) (fun _ _ _=>id) (by rfl) ?_ (HSZ.out _ z0.out) ?_
        rotate_left
        ·intro w h;go_simp;try with_reducible rfl
        try simp only [zv,zx]
        refine zj (i:=11) (v:=?_) rfl (by kernel_rfl) (fun _ _ _=>id) (by rfl) ?_ (HSZ.out _ z0.out) ?_
        rotate_left
        ·intro w h;go_simp;try with_reducible rfl
        try simp only [zv,zx]
        refine zj (i:=12) (v:=?_) rfl (by kernel_rfl) (fun _ _ _=>id) (by rfl) ?_ (HSZ.out _ z0.out) ?_
        rotate_left
        ·intro w h;go_simp;try with_reducible rfl
        try simp only [zv,zx]
        refine zQ (i:=13) rfl (by kernel_rfl) (fun _ _ _=>id) (zXh (by rfl) _ _ rfl _ rfl _ _ _ (fun wz h=>h.2.2.2) Tryz.underlying27 rfl (by exact zT6)) (HSZ.out _ z0.out) ?_
        try simp only [zv,zx]
        refine zQ (i:=15) rfl (by kernel_rfl) (fun _ _ _=>id) (zXh (by rfl) _ _ rfl _ rfl _ _ _ (fun wz h=>h.2.2.1) Tryz.underlying27 rfl (by exact zT6)) (HSZ.out _ z0.out) ?_
        try simp only [zv,zx]
        refine wpAnyH_ready (rs:= [14]) (by kernel_rfl) (by simp) ?_
        refine AllReadyH.cons rfl (fun K hK=>?_) AllReadyH.nil
        try simp only [zx]
        rw [if_pos (by rfl)]
        go_wp2_with (go_at_call 19;refine (HX.out _).mono ?_;rintro e w8 ⟨rfl,hY⟩)
        have z8:=zy (KP.out _ _ z0.out hY)
        clear hY
        refine hK.out _ _ ((HSZ.out _ z8.out)) (fun _=>?_)
        clear hK K
        try simp only [zv,zx]
        refine wpAnyH_ready (rs:= [16]) (by kernel_rfl) (by simp) ?_
        refine AllReadyH.cons rfl (fun K hK=>?_) AllReadyH.nil
        try simp only [zx]
        rw [if_pos (by rfl)]
        go_wp2_with (go_at_call 19;refine (HB.out _).mono ?_;rintro e w9 ⟨rfl,hY⟩)
        have z9:=zy (KP.out _ _ z8.out hY)
        clear hY
        refine hK.out _ _ ((HSZ.out _ z9.out)) (fun _=>?_)
        clear hK K
        try simp only [zv,zx]
        refine zj (i:=17) (v:=?_) rfl (by kernel_rfl) (fun _ _ _=>id) (by rfl) ?_ (HSZ.out _ z9.out) ?_
        rotate_left
        ·intro w h;go_simp;try with_reducible rfl
        try simp only [zv,zx]
        refine zj (i:=18) (v:=?_) rfl (by kernel_rfl) (fun _ _ _=>id) (by rfl) ?_ (HSZ.out _ z9.out) ?_
        rotate_left
        ·intro w h;go_simp;try with_reducible rfl
        try simp only [zv,zx]
        refine zj (i:=19) (v:=?_) rfl (by kernel_rfl) (fun _ _ _=>id) (by rfl) ?_ (HSZ.out _ z9.out) ?_
        rotate_left
        ·intro w h;go_simp;try with_reducible rfl
        try simp only [zv,zx]
        refine wpAnyH_done (by kernel_rfl) ?_ _
        have HF:Hid (RcI w G L (chF k (L.take (j+1))) _):=zy (by rw [HSt.out HT.out];exact z9.out.1)
        go_wp2
        go_roundw
        case rel=>exact ⟨j+1,by go_num,by omega,HF.out⟩
        case measure=>simp [intOf];omega
   ·obtain rfl:j=L.length:=by omega
    rw [List.take_length] at hW
    rw [←HC.out] at hW
    have HW:=zy hW
    have tl:decide ((L.length:Int)<(L.length:Int))=false:=by simp
    have d1:=HW.out.best.cell (i:=1) (v:= .int .i64 c1) rfl
    have R3:=zy (HW.out.res.setRow (zD7 (c0,c1,c2)))
    have HB3:=zy (below_setRow HW.out.below (Nat.le_refl _) (zD7 (c0,c1,c2)))
    clear hW HAa
    by_cases hz:c1=0
    ·have h0:(c0,c1,c2)=((0:Int),(0:Int),(0:Int)):=HCc.out.resolve_right (fun h=>by have:=zDe h;simp at this;omega)
     have he:Hid (er=11):=zy (by rw [HE.out,if_pos h0])
     have hz1:(c1 == 0)=true:=by simpa using hz
     clear hz h0 HC HE HCc
     go_wp2_with (first|(refine wpList_load_row rfl _ _ rfl _ rfl _ _ _ _ (HW.out.best) Tryz.underlying27 rfl (by exact zT6) ?_)|(refine wpList_store_row rfl _ _ _ rfl _ _ rfl rfl _ _ (HW.out.res) (by exact zT6) rfl (zOs _ _ _) ?_))
     refine bodyPost_ret (zR9 rfl _ _ _ _ _ _ rfl R3.out Tryz.underlying27 rfl (by exact zT6)) (by rfl) ?_
     exact ⟨by rw [he.out];rfl,HB3.out⟩
    ·have hz1:(c1 == 0)=false:=by simpa using hz
     have he:Hid (er=0):=zy (by rw [HE.out,if_neg (fun h=>hz (by injection h with h1 h2;injection h2 with h2 h3))])
     clear hz HC HE HCc
     go_wp2_with (first|(refine wpList_load_row rfl _ _ rfl _ rfl _ _ _ _ (HW.out.best) Tryz.underlying27 rfl (by exact zT6) ?_)|(refine wpList_store_row rfl _ _ _ rfl _ _ rfl rfl _ _ (HW.out.res) (by exact zT6) rfl (zOs _ _ _) ?_))
     refine bodyPost_ret (zR9 rfl _ _ _ _ _ _ rfl R3.out Tryz.underlying27 rfl (by exact zT6)) (by rfl) ?_
     exact ⟨by rw [he.out];rfl,HB3.out⟩
end
end Go.Proofs.YtmalmijdjhkklaaGreat
