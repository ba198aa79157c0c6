/- plan.Choose. -/
import Derived.Test.YtmalmijdjhkklaaGreatWPlJToPlN
import Derived.Test.YtmalmijdjhkklaaGreatRndH
set_option linter.unusedVariables false
set_option linter.unusedSimpArgs false
set_option linter.unusedSectionVars false
namespace Go.Proofs.YtmalmijdjhkklaaGreat
open Go.RowKit
attribute [local go_sem] Oper.semAt_some
def zD7 (b:PlT):Array Value:= #[.int .i64 b.1, .int .i64 b.2.1, .int .i64 b.2.2]
structure ChI (w:World) (q:Option Addr) (n k:Int) (b:PlT) (W:World):Prop where
 size:w.heap.size+7≤W.heap.size
 below:Below w.heap.size w W
 kb:zAI W w.heap.size 34 #[.int .i64 k]
 res:zAI W (w.heap.size+1) 36 (zD7 (0,0,0))
 book:Book W (w.heap.size+2)
 mb:zAI W (w.heap.size+3) 94 #[.map (some (w.heap.size+2))]
 best:zAI W (w.heap.size+4) 36 (zD7 b)
 cf:W.cell? ⟨w.heap.size+5,0,none⟩=some (.pointer q)
 cn:W.cell? ⟨w.heap.size+6,0,none⟩=some (.int .i64 n)
theorem Book.low {w w':World} {bm B:Nat} (h:Book w bm) (hb:Below B w w') (hB:bm<B):Book w' bm:=by
 obtain ⟨ms,clock,hm,hs,hx⟩:=h
 exact ⟨ms,clock,(hb.block bm hB).trans hm,hs,hx⟩
theorem zDt {w w':World} {B:Nat} {a:Addr} {v:Value} (hb:Below B w w') (hB:a.block<B) (h:w.cell? a=some v):w'.cell? a=some v:=by
 rw [←h];simp only [World.cell?,hb.block a.block hB]
theorem ChI.keep {w:World} {q:Option Addr} {n k:Int} {b:PlT} {W W':World} (h:ChI w q n k b W) (hb:Below (w.heap.size+7) W W'):ChI w q n k b W':=
 {size:=Nat.le_trans h.size hb.size
  below:=h.below.trans (hb.mono (by omega))
  kb:=h.kb.below hb (by omega)
  res:=h.res.below hb (by omega)
  book:=h.book.low hb (by omega)
  mb:=h.mb.below hb (by omega)
  best:=h.best.below hb (by omega)
  cf:=zDt hb (by simp) h.cf
  cn:=zDt hb (by simp) h.cn }
theorem ChI.but {w:World} {q:Option Addr} {n k:Int} {b:PlT} {W W':World} (h:ChI w q n k b W) (hk:Book W' (w.heap.size+2)) (hb:But (w.heap.size+2) W W'):ChI w q n k b W':=
 {size:=Nat.le_trans h.size hb.size
  below:=h.below.trans (hb.below h.below.size (by omega))
  kb:=h.kb.but hb (by omega)
  res:=h.res.but hb (by omega)
  book:=hk
  mb:=h.mb.but hb (by omega)
  best:=h.best.but hb (by omega)
  cf:=hb.cell (by have:=h.size;omega) (by omega) h.cf
  cn:=hb.cell (by have:=h.size;omega) (by omega) h.cn }
theorem Book.set {w:World} {bm:Nat} (h:Book w bm) (a:Addr) (v:Value) (hn:bm≠a.block):Book (w.setCell a v) bm:=by
 obtain ⟨ms,clock,hm,hs,hx⟩:=h
 exact ⟨ms,clock,(heap_setCell_other w a bm v hn).trans hm,hs,hx⟩
theorem zDv {w:World} {a c:Addr} {v u:Value} (h:w.cell? a=some v) (hn:a.block≠c.block):(w.setCell c u).cell? a=some v:=by
 rw [World.cell?_setCell_other _ _ _ _ (fun e=>hn (by rw [e]))];exact h
theorem ChI.set {w:World} {q:Option Addr} {n k:Int} {b:PlT} {W:World} (h:ChI w q n k b W) (x0 x1 x2:Int):
  ChI w q n k (x0,x1,x2) (((W.setCell ⟨w.heap.size+4,0,none⟩ (.int .i64 x0)).setCell ⟨w.heap.size+4,1,none⟩ (.int .i64 x1)).setCell ⟨w.heap.size+4,2,none⟩ (.int .i64 x2)):=
 {size:=by have:=h.size;simpa using this
  below:=zCn (zCn (zCn h.below (by omega) 0 _) (by omega) 1 _) (by omega) 2 _
  kb:=((h.kb.setOther _ _ (by simp)).setOther _ _ (by simp)).setOther _ _ (by simp)
  res:=((h.res.setOther _ _ (by simp)).setOther _ _ (by simp)).setOther _ _ (by simp)
  book:=((h.book.set _ _ (by simp)).set _ _ (by simp)).set _ _ (by simp)
  mb:=((h.mb.setOther _ _ (by simp)).setOther _ _ (by simp)).setOther _ _ (by simp)
  best:=((h.best.set 0 (.int .i64 x0)).set 1 (.int .i64 x1)).set 2 (.int .i64 x2)
  cf:=zDv (zDv (zDv h.cf (by simp)) (by simp)) (by simp)
  cn:=zDv (zDv (zDv h.cn (by simp)) (by simp)) (by simp) }
theorem zEv {w w3:World} {q:Option Addr} {n k:Int}
  (hB:Below (((((w.alloc (.cells #[.int .i64 k] 34)).alloc (.cells (zD7 (0,0,0)) 36)).alloc (.map #[] 0)).alloc (.cells #[.map (some (w.heap.size+1+1))] 94)).alloc (.cells #[.int .i64 0, .int .i64 0, .int .i64 0] 36)).heap.size
   (((((w.alloc (.cells #[.int .i64 k] 34)).alloc (.cells (zD7 (0,0,0)) 36)).alloc (.map #[] 0)).alloc (.cells #[.map (some (w.heap.size+1+1))] 94)).alloc (.cells #[.int .i64 0, .int .i64 0, .int .i64 0] 36)) w3)
  (hs:w3.heap.size=w.heap.size+7) (c0:w3.cell? ⟨w.heap.size+5,0,none⟩=some (.pointer q)) (c1:w3.cell? ⟨w.heap.size+6,0,none⟩=some (.int .i64 n)):ChI w q n k (0,0,0) w3:=by
 have hb:Below w.heap.size w (((((w.alloc (.cells #[.int .i64 k] 34)).alloc (.cells (zD7 (0,0,0)) 36)).alloc (.map #[] 0)).alloc (.cells #[.map (some (w.heap.size+1+1))] 94)).alloc (.cells #[.int .i64 0, .int .i64 0, .int .i64 0] 36)):=
  (((((Below.refl _ w).alloc (Nat.le_refl _) _).alloc (by simp only [World.size_alloc];omega) _).alloc (by simp only [World.size_alloc];omega) _).alloc (by simp only [World.size_alloc];omega) _).alloc (by simp only [World.size_alloc];omega) _
 have r2:=zAI.new (w.alloc (.cells #[.int .i64 k] 34)) 36 (zD7 (0,0,0))
 rw [World.size_alloc] at r2
 have r3:=zCA ((w.alloc (.cells #[.int .i64 k] 34)).alloc (.cells (zD7 (0,0,0)) 36))
 rw [World.size_alloc,World.size_alloc] at r3
 have r4:=zAI.new (((w.alloc (.cells #[.int .i64 k] 34)).alloc (.cells (zD7 (0,0,0)) 36)).alloc (.map #[] 0)) 94 #[.map (some (w.heap.size+1+1))]
 rw [World.size_alloc,World.size_alloc,World.size_alloc] at r4
 have r5:=zAI.new ((((w.alloc (.cells #[.int .i64 k] 34)).alloc (.cells (zD7 (0,0,0)) 36)).alloc (.map #[] 0)).alloc (.cells #[.map (some (w.heap.size+1+1))] 94)) 36 #[.int .i64 0, .int .i64 0, .int .i64 0]
 rw [World.size_alloc,World.size_alloc,World.size_alloc,World.size_alloc] at r5
 have al: ∀ {X:World} {bm:Nat} (o:Obj),Book X bm→Book (X.alloc o) bm:=fun o h=>h.below ((Below.refl _ _).alloc (Nat.le_refl _) _)
 exact {
  size:=by omega
  below:=hb.trans (hB.mono hb.size)
  kb:=(((((zAI.new w 34 #[.int .i64 k]).alloc _).alloc _).alloc _).alloc _).keep hB
  res:=(((r2.alloc _).alloc _).alloc _).keep hB
  book:=(al _ (al _ r3)).below hB
  mb:=(r4.alloc _).keep hB
  best:=r5.keep hB
  cf:=c0
  cn:=c1 }
set_option maxHeartbeats 8000000 in
set_option maxRecDepth 100000 in
theorem zEt {w:World} {q:Option Addr} {p g:Int} (hFd:Fd w w.heap.size (.pointer q) p g) (n k:Int) (n0: -9223372036854775808≤n) (n1:n≤9223372036854775807) (hchk:chk p n 1024=0):
  Calls Tryz.prog 25 #[.pointer q, .int .i64 n, .int .i64 k] w fun e w'=>e= .returned (.tuple #[.agg (zD7 (chF k (allL p n))), .int .i64 (if chF k (allL p n)=(0,0,0) then 11 else 0)])∧Below w.heap.size w w':=by
 have hn:=zEo hchk
 have HFd:=Lib.hid hFd
 obtain ⟨c,hc⟩: ∃c,c=chF k (allL p n):=⟨_,rfl⟩
 obtain ⟨er,her⟩: ∃er:Int,er=if chF k (allL p n)=(0,0,0) then 11 else 0:=⟨_,rfl⟩
 rw [←her,←hc]
 rw [←hc] at her
 have HC:=Lib.hid hc
 have HE:=Lib.hid her
 clear hc her
 have hmk: ∀W,(Instr.makeMap 94 none).run Tryz.prog W= .ok (.map (some W.heap.size)) (W.alloc (.map #[] 0)):=fun W=>by simp [Instr.makeMap,Result.andThen]
 have R2:=Lib.hid (lay2 w 34 36 #[.int .i64 k] (zD7 (0,0,0)))
 have HCk:=Lib.hid (zNX (hFd.below R2.out.2.2) n n0 n1)
 rw [hchk] at HCk
 have HA:=Lib.hid (fun W=>zOt q n W)
 have hF47:Fence.wide.fn 53:=trivial
 have e47: ∀args w,(callFunc 53 args).run Tryz.prog w= .ok (.enter 53 args) w:=enters_of Tryz.func53 (by kernel_rfl) rfl
 have hF21:Fence.wide.fn 23:=trivial
 have e21: ∀args w,(callFunc 23 args).run Tryz.prog w= .ok (.enter 23 args) w:=enters_of Tryz.func23 (by kernel_rfl) rfl
 have e55: ∀args w,(callFunc 61 args).run Tryz.prog w= .ok (.enter 61 args) w:=enters_of Tryz.func61 (by kernel_rfl) rfl
 clear hFd
 refine (callsIn_wide (n:=4)).1 ?_
 refine callsIn_of_wp_marks Tryz.func25 rfl trivial ?_ rfl
 simp only [Tryz.ntmps25,List.size_toArray,List.length_cons,List.length_nil,Nat.reduceAdd,Nat.reduceSub,Array.replicate_succ,Array.replicate_zero,List.push_toArray,List.append_toArray,List.nil_append,List.cons_append]
 gi_wp2_with (first|(gi_at_call 53;refine (callsIn_wide.2 HCk.out).mono ?_;rintro r w2 ⟨rfl,rfl⟩)|(gi_at_call 23;refine (callsIn_wide.2 (HA.out _)).mono ?_;rintro r w3 ⟨rfl,hB3,hs3,c0,c1⟩))
 have hs7:w3.heap.size=w.heap.size+7:=by simp at hs3;omega
 have HI0:Hid (ChI w q n k (chF k []) w3):=Lib.hid (zEv hB3 hs7 (by simpa [Nat.add_assoc] using c0) (by simpa [Nat.add_assoc] using c1))
 clear hB3 hs3 c0 c1
 simp only [Nat.add_assoc,Nat.reduceAdd]
 refine zRk (gf:=61) (lb:= #[.pointer (some ⟨w.heap.size+5,0,none⟩), .pointer (some ⟨w.heap.size+6,0,none⟩)]) rfl e55
  (fun W0' _ _=>zB5 q p g n (w.heap.size+5) (w.heap.size+6) hchk W0') (fun _=>rfl)
  (fun s W=>ChI w q n k (chF k s) W) (fun c s W=>False) ?hI ?hIx ?hC ?h0 ?hround ?hdone ?hstop
 case hI=>exact fun s W W' h hb=>h.keep (by rw [hs7] at hb;exact hb)
 case hIx=>exact fun c s W W' h hb=>h
 case hC=>exact fun s W h=>⟨(HFd.out.below h.below).mono h.below.size,h.cf,h.cn⟩
 case h0=>exact HI0.out
 case hround=>
  rintro m pre ⟨x0,x1,x2⟩ W KK hsz hW hpre hKK
  have HW:=Lib.hid hW
  have HKK:=Lib.hid hKK
  have hcx:CanP (x0,x1,x2):=zBz hn hchk (hpre.subset (List.mem_append_right _ (List.mem_singleton.2 rfl)))
  have hcb:=zDJ k pre (fun y hy=>zBz hn hchk (hpre.subset (List.mem_append_left _ hy)))
  have HChz:Hid (chF k (pre ++ [(x0,x1,x2)])=chz k (chF k pre) (x0,x1,x2)):=Lib.hid (zDM _ _ _)
  rw [hs7] at hsz
  clear hW hKK hpre
  simp only [encP]
  gi_wp2
  refine HKK.out _ _ (HW.out.keep ((Below.refl _ W).alloc (by omega) _)) (zAa.of_below ((Below.refl _ W).alloc (Nat.le_refl _) _)) ?_
  intro W2 E hE hEo hEp hb hs hne
  rw [hs7] at hb
  have hs':W2.heap.size=W.heap.size+1:=by rw [hs];simp
  have hr2:zAI W2 W.heap.size 36 #[.int .i64 x0, .int .i64 x1, .int .i64 x2]:=by
   unfold zAI
   rw [hne W.heap.size (by omega)]
   exact zAI.new W _ _
  have hI2:=(HW.out.keep ((Below.refl _ W).alloc (by omega) (.cells #[.int .i64 x0, .int .i64 x1, .int .i64 x2] 36))).keep hb
  have HEn:Hid (∀a W',ChI w q n k (chz k (chF k pre) (x0,x1,x2)) W'→zAa (w.heap.size+7) W2 W'→E .normal a W'):=Lib.hid (fun a W' h1 h2=>hE .normal a W' ⟨by show ChI w q n k (chF k (pre ++ [(x0,x1,x2)])) W';rw [HChz.out];exact h1,by rw [hs7];exact h2⟩)
  obtain ⟨⟨b0,b1,b2⟩,hbe⟩: ∃b,b=chF k pre:=⟨_,rfl⟩
  rw [←hbe] at HEn hI2 hcb
  obtain ⟨X,hX⟩: ∃X,X=W.heap.size:=⟨_,rfl⟩
  rw [←hX] at hr2 hsz ⊢
  have HOx:=zMP (w.heap.size+2) x0 x1 x2 hcx
  obtain ⟨cx,hcxe⟩: ∃cx,cx=zEO x0 x1 x2:=⟨_,rfl⟩
  have ZI:Hid ((fun wz=>ChI w q n k (b0,b1,b2) wz∧zAI wz X 36 #[.int .i64 x0, .int .i64 x1, .int .i64 x2]∧zAa (w.heap.size+7) W2 wz) W2):=Lib.hid ⟨hI2,hr2,zAa.refl _ _⟩
  have z0:Hid (ChI w q n k (b0,b1,b2) (W2.drewN 1)∧zAI (W2.drewN 1) X 36 #[.int .i64 x0, .int .i64 x1, .int .i64 x2]∧zAa (w.heap.size+7) W2 (W2.drewN 1)):=Lib.hid ⟨hI2.keep (below_drewN (Below.refl _ _) 1),hr2.drewN 1,zAa.of_below (below_drewN (Below.refl _ _) 1)⟩
  have HX:Hid (∀wz,(ChI w q n k (b0,b1,b2) wz∧zAI wz X 36 #[.int .i64 x0, .int .i64 x1, .int .i64 x2]∧zAa (w.heap.size+7) W2 wz)→Calls Tryz.prog 56 #[.map (some (w.heap.size+2)), .agg #[.int .i64 x0, .int .i64 x1, .int .i64 x2]] wz fun e w'=>e= .returned (.int .i64 cx)∧(ChI w q n k (b0,b1,b2) w'∧zAI w' X 36 #[.int .i64 x0, .int .i64 x1, .int .i64 x2]∧zAa (w.heap.size+7) W2 w')):=Lib.hid (fun wz hz=>by
   rw [hcxe]
   exact (HOx wz hz.1.book).mono fun e w' h=>⟨h.1,hz.1.but h.2.1 h.2.2,hz.2.1.but h.2.2 (by omega),hz.2.2.trans (zAa.of_but h.2.2 (by omega))⟩)
  obtain ⟨cb,hcbe⟩: ∃cb,cb=zEO b0 b1 b2:=⟨_,rfl⟩
  have HB:Hid (CanP (b0,b1,b2)→ ∀wz,(ChI w q n k (b0,b1,b2) wz∧zAI wz X 36 #[.int .i64 x0, .int .i64 x1, .int .i64 x2]∧zAa (w.heap.size+7) W2 wz)→Calls Tryz.prog 56 #[.map (some (w.heap.size+2)), .agg #[.int .i64 b0, .int .i64 b1, .int .i64 b2]] wz fun e w'=>e= .returned (.int .i64 cb)∧(ChI w q n k (b0,b1,b2) w'∧zAI w' X 36 #[.int .i64 x0, .int .i64 x1, .int .i64 x2]∧zAa (w.heap.size+7) W2 w')):=Lib.hid (fun hcan wz hz=>by
   rw [hcbe]
   exact (zMP (w.heap.size+2) b0 b1 b2 hcan wz hz.1.book).mono fun e w' h=>⟨h.1,hz.1.but h.2.1 h.2.2,hz.2.1.but h.2.2 (by omega),hz.2.2.trans (zAa.of_but h.2.2 (by omega))⟩)
  have HSZ:Hid (∀wz,(ChI w q n k (b0,b1,b2) wz∧zAI wz X 36 #[.int .i64 x0, .int .i64 x1, .int .i64 x2]∧zAa (w.heap.size+7) W2 wz)→(wz.cell? ⟨w.heap.size,0,none⟩=some (.int .i64 k)∧wz.cell? ⟨w.heap.size+3,0,none⟩=some (.map (some (w.heap.size+2)))∧wz.cell? ⟨X,0,none⟩=some (.int .i64 x0)∧zAI wz (w.heap.size+4) 36 #[.int .i64 b0, .int .i64 b1, .int .i64 b2]∧zAI wz X 36 #[.int .i64 x0, .int .i64 x1, .int .i64 x2])):=
   Lib.hid (fun wz hz=>⟨hz.1.kb.cell rfl,hz.1.mb.cell rfl,hz.2.1.cell rfl,hz.1.best,hz.2.1⟩)
  have HChE:Hid (chz k (b0,b1,b2) (x0,x1,x2)=if (k= -1∨k=x0)∧((b0,b1,b2)=((0:Int),(0:Int),(0:Int))∨cx<cb) then (x0,x1,x2) else (b0,b1,b2)):=Lib.hid (by rw [hcxe,hcbe];rfl)
  have HSt:Hid (∀W',(ChI w q n k (b0,b1,b2) W'∧zAI W' X 36 #[.int .i64 x0, .int .i64 x1, .int .i64 x2]∧zAa (w.heap.size+7) W2 W')→chz k (b0,b1,b2) (x0,x1,x2)=(b0,b1,b2)→ ∀a,E .normal a W'):=Lib.hid (fun W' hz he a=>HEn.out a W' (by rw [he];exact hz.1) hz.2.2)
  have HTk:Hid (∀W',(ChI w q n k (b0,b1,b2) W'∧zAI W' X 36 #[.int .i64 x0, .int .i64 x1, .int .i64 x2]∧zAa (w.heap.size+7) W2 W')→chz k (b0,b1,b2) (x0,x1,x2)=(x0,x1,x2)→ ∀a,E .normal a (((W'.setCell ⟨w.heap.size+4,0,none⟩ (.int .i64 x0)).setCell ⟨w.heap.size+4,1,none⟩ (.int .i64 x1)).setCell ⟨w.heap.size+4,2,none⟩ (.int .i64 x2))):=Lib.hid (fun W' hz he a=>
   HEn.out a _ (by rw [he];exact hz.1.set x0 x1 x2) (((hz.2.2.trans (zAa.setCell _ _ (by simp))).trans (zAa.setCell _ _ (by simp))).trans (zAa.setCell _ _ (by simp))))
  have heq:=fun W=>zGn b0 b1 b2 0 0 0 W
  unfold zOq at heq
  have HCb:=Lib.hid hcb
  clear hcxe hcbe HOx hI2 hr2 hb hs hne hE HEn ZI HKK HChz hcx hcb hbe HW hs' hX
  by_cases hk:k= -1∨k=x0
  case neg=>
   have hk1:(k == -1)=false:=by rw [beq_eq_false_iff_ne];exact fun h=>hk (.inl h)
   have hk2:(k == x0)=false:=by rw [beq_eq_false_iff_ne];exact fun h=>hk (.inr h)
   have HF:=Lib.hid (HSt.out _ z0.out (by rw [HChE.out,if_neg (fun h=>hk h.1)]))
   gi_wp2
   refine zRz (S:=fun wz=>wz.cell? ⟨w.heap.size,0,none⟩=some (.int .i64 k)∧wz.cell? ⟨w.heap.size+3,0,none⟩=some (.map (some (w.heap.size+2)))∧wz.cell? ⟨X,0,none⟩=some (.int .i64 x0)∧zAI wz (w.heap.size+4) 36 #[.int .i64 b0, .int .i64 b1, .int .i64 b2]∧zAI wz X 36 #[.int .i64 x0, .int .i64 x1, .int .i64 x2]) (by kernel_rfl) (by kernel_rfl) (fun ⟨_,_,h⟩=>hEo ⟨_,_,h⟩) (HSZ.out _ z0.out) (fun hHeld=>?_)
   clear hHeld
   refine wpAnyH_take (i:=0) (v:=?_) rfl (by kernel_rfl) (by kernel_rfl) (by kernel_rfl) (fun _ _ _ h=>(hEp _ _ _ h).elim) (Or.inl ⟨by rfl,?_⟩) (HSZ.out _ z0.out) ?_
   rotate_left
   ·intro w hSw;(try dsimp only at hSw);go_simp;try with_reducible rfl
   try simp only [Act.put,zKx]
   refine wpAnyH_take (i:=1) (v:=?_) rfl (by kernel_rfl) (by kernel_rfl) (by kernel_rfl) (fun _ _ _ h=>(hEp _ _ _ h).elim) (Or.inl ⟨by rfl,?_⟩) (HSZ.out _ z0.out) ?_
   rotate_left
   ·intro w hSw;(try dsimp only at hSw);go_simp;try with_reducible rfl
   try simp only [Act.put,zKx]
   refine wpAnyH_take (i:=2) (v:=?_) rfl (by kernel_rfl) (by kernel_rfl) (by kernel_rfl) (fun _ _ _ h=>(hEp _ _ _ h).elim) (Or.inl ⟨by rfl,?_⟩) (HSZ.out _ z0.out) ?_
   rotate_left
   ·intro w hSw;(try dsimp only at hSw);go_simp;try with_reducible rfl
   try simp only [Act.put,zKx]
   refine wpAnyH_take (i:=3) (v:=?_) rfl (by kernel_rfl) (by kernel_rfl) (by kernel_rfl) (fun _ _ _ h=>(hEp _ _ _ h).elim) (Or.inl ⟨by rfl,?_⟩) (HSZ.out _ z0.out) ?_
   rotate_left
   ·intro w hSw;(try dsimp only at hSw);go_simp;try with_reducible rfl
   try simp only [Act.put,zKx]
   refine wpAnyH_take (i:=4) (v:=?_) rfl (by kernel_rfl) (by kernel_rfl) (by kernel_rfl) (fun _ _ _ h=>(hEp _ _ _ h).elim) (Or.inl ⟨by rfl,?_⟩) (HSZ.out _ z0.out) ?_
   rotate_left
   ·intro w hSw;(try dsimp only at hSw);go_simp;try with_reducible rfl
   try simp only [Act.put,zKx]
   refine wpAnyH_take (i:=5) (v:=?_) rfl (by kernel_rfl) (by kernel_rfl) (by kernel_rfl) (fun _ _ _ h=>(hEp _ _ _ h).elim) (Or.inl ⟨by rfl,?_⟩) (HSZ.out _ z0.out) ?_
   rotate_left
   ·intro w hSw;(try dsimp only at hSw);go_simp;try with_reducible rfl
   try simp only [Act.put,zKx]
   refine wpAnyH_take (i:=6) (v:=?_) rfl (by kernel_rfl) (by kernel_rfl) (by kernel_rfl) (fun _ _ _ h=>(hEp _ _ _ h).elim) (Or.inl ⟨by rfl,?_⟩) (HSZ.out _ z0.out) ?_
   rotate_left
   ·intro w hSw;(try dsimp only at hSw);go_simp;try with_reducible rfl
   try simp only [Act.put,zKx]
   refine wpAnyH_take (i:=7) (v:=?_) rfl (by kernel_rfl) (by kernel_rfl) (by kernel_rfl) (fun _ _ _ h=>(hEp _ _ _ h).elim) (Or.inl ⟨by rfl,?_⟩) (HSZ.out _ z0.out) ?_
   rotate_left
   ·intro w hSw;(try dsimp only at hSw);go_simp;try with_reducible rfl
   try simp only [Act.put,zKx]
   refine wpAnyH_take (i:=8) (v:=?_) rfl (by kernel_rfl) (by kernel_rfl) (by kernel_rfl) (fun _ _ _ h=>(hEp _ _ _ h).elim) (Or.inl ⟨by rfl,?_⟩) (HSZ.out _ z0.out) ?_
   rotate_left
   ·intro w hSw;(try dsimp only at hSw);go_simp;try with_reducible rfl
   try simp only [Act.put,zKx]
   refine wpAnyH_take (i:=9) (v:=undef) rfl (by kernel_rfl) (by kernel_rfl) (by kernel_rfl) (fun _ _ _ h=>(hEp _ _ _ h).elim) (Or.inr ⟨by rfl,rfl⟩) (HSZ.out _ z0.out) ?_
   try simp only [Act.put,zKx]
   refine wpAnyH_take (i:=10) (v:=undef) rfl (by kernel_rfl) (by kernel_rfl) (by kernel_rfl) (fun _ _ _ h=>(hEp _ _ _ h).elim) (Or.inr ⟨by rfl,rfl⟩) (HSZ.out _ z0.out) ?_
   try simp only [Act.put,zKx]
   refine wpAnyH_take (i:=11) (v:=undef) rfl (by kernel_rfl) (by kernel_rfl) (by kernel_rfl) (fun _ _ _ h=>(hEp _ _ _ h).elim) (Or.inr ⟨by rfl,rfl⟩) (HSZ.out _ z0.out) ?_
   try simp only [Act.put,zKx]
   refine wpAnyH_take (i:=12) (v:=undef) rfl (by kernel_rfl) (by kernel_rfl) (by kernel_rfl) (fun _ _ _ h=>(hEp _ _ _ h).elim) (Or.inr ⟨by rfl,rfl⟩) (HSZ.out _ z0.out) ?_
   try simp only [Act.put,zKx]
   refine wpAnyH_take (i:=13) (v:=undef) rfl (by kernel_rfl) (by kernel_rfl) (by kernel_rfl) (fun _ _ _ h=>(hEp _ _ _ h).elim) (Or.inr ⟨by rfl,rfl⟩) (HSZ.out _ z0.out) ?_
   try simp only [Act.put,zKx]
   refine wpAnyH_take (i:=14) (v:=undef) rfl (by kernel_rfl) (by kernel_rfl) (by kernel_rfl) (fun _ _ _ h=>(hEp _ _ _ h).elim) (Or.inr ⟨by rfl,rfl⟩) (HSZ.out _ z0.out) ?_
   try simp only [Act.put,zKx]
   refine wpAnyH_take (i:=15) (v:=undef) rfl (by kernel_rfl) (by kernel_rfl) (by kernel_rfl) (fun _ _ _ h=>(hEp _ _ _ h).elim) (Or.inr ⟨by rfl,rfl⟩) (HSZ.out _ z0.out) ?_
   try simp only [Act.put,zKx]
   refine wpAnyH_take (i:=16) (v:=undef) rfl (by kernel_rfl) (by kernel_rfl) (by kernel_rfl) (fun _ _ _ h=>(hEp _ _ _ h).elim) (Or.inr ⟨by rfl,rfl⟩) (HSZ.out _ z0.out) ?_
   try simp only [Act.put,zKx]
   refine wpAnyH_take (i:=17) (v:=undef) rfl (by kernel_rfl) (by kernel_rfl) (by kernel_rfl) (fun _ _ _ h=>(hEp _ _ _ h).elim) (Or.inr ⟨by rfl,rfl⟩) (HSZ.out _ z0.out) ?_
   try simp only [Act.put,zKx]
   refine wpAnyH_take (i:=18) (v:=undef) rfl (by kernel_rfl) (by kernel_rfl) (by kernel_rfl) (fun _ _ _ h=>(hEp _ _ _ h).elim) (Or.inr ⟨by rfl,rfl⟩) (HSZ.out _ z0.out) ?_
   try simp only [Act.put,zKx]
   refine wpAnyH_take (i:=19) (v:=undef) rfl (by kernel_rfl) (by kernel_rfl) (by kernel_rfl) (fun _ _ _ h=>(hEp _ _ _ h).elim) (Or.inr ⟨by rfl,rfl⟩) (HSZ.out _ z0.out) ?_
   try simp only [Act.put,zKx]
   refine wpAnyH_take (i:=20) (v:=undef) rfl (by kernel_rfl) (by kernel_rfl) (by kernel_rfl) (fun _ _ _ h=>(hEp _ _ _ h).elim) (Or.inr ⟨by rfl,rfl⟩) (HSZ.out _ z0.out) ?_
   try simp only [Act.put,zKx]
   refine wpAnyH_take (i:=21) (v:=?_) rfl (by kernel_rfl) (by kernel_rfl) (by kernel_rfl) (fun _ _ _ h=>(hEp _ _ _ h).elim) (Or.inl ⟨by rfl,?_⟩) (HSZ.out _ z0.out) ?_
   rotate_left
   ·intro w hSw;(try dsimp only at hSw);go_simp;try with_reducible rfl
   try simp only [Act.put,zKx]
   refine wpAnyH_done (by kernel_rfl) ?_ _
   gi_wp2
   exact HF.out _
  case pos=>
   by_cases hz:b0=0∧b1=0∧b2=0
   ·obtain ⟨rfl,rfl,rfl⟩:=hz
    have HT:Hid (chz k (0,0,0) (x0,x1,x2)=(x0,x1,x2)):=Lib.hid (by rw [HChE.out,if_pos ⟨hk, .inl rfl⟩])
    have HF:=Lib.hid (HTk.out _ z0.out HT.out)
    have d0:W2.cell? ⟨X,0,none⟩=some (.int .i64 x0):=z0.out.2.1.cell (i:=0) (v:= .int .i64 x0) rfl
    have d1:W2.cell? ⟨X,1,none⟩=some (.int .i64 x1):=z0.out.2.1.cell (i:=1) (v:= .int .i64 x1) rfl
    have d2:W2.cell? ⟨X,2,none⟩=some (.int .i64 x2):=z0.out.2.1.cell (i:=2) (v:= .int .i64 x2) rfl
    have y0:W2.cell? ⟨w.heap.size+4,0,none⟩=some (.int .i64 0):=z0.out.1.best.cell (i:=0) (v:= .int .i64 0) rfl
    have y1:W2.cell? ⟨w.heap.size+4,1,none⟩=some (.int .i64 0):=z0.out.1.best.cell (i:=1) (v:= .int .i64 0) rfl
    have y2:W2.cell? ⟨w.heap.size+4,2,none⟩=some (.int .i64 0):=z0.out.1.best.cell (i:=2) (v:= .int .i64 0) rfl
    have f0:W2.frozen? ⟨w.heap.size+4,0,none⟩=false:=z0.out.1.best.frozen 0
    have f1:W2.frozen? ⟨w.heap.size+4,1,none⟩=false:=z0.out.1.best.frozen 1
    have f2:W2.frozen? ⟨w.heap.size+4,2,none⟩=false:=z0.out.1.best.frozen 2
    clear HSt HTk HChE HT
    rcases hk with rfl|hk
    ·gi_wp2
     refine zRz (S:=fun wz=>wz.cell? ⟨w.heap.size,0,none⟩=some (.int .i64 (-1))∧wz.cell? ⟨w.heap.size+3,0,none⟩=some (.map (some (w.heap.size+2)))∧wz.cell? ⟨X,0,none⟩=some (.int .i64 x0)∧zAI wz (w.heap.size+4) 36 #[.int .i64 0, .int .i64 0, .int .i64 0]∧zAI wz X 36 #[.int .i64 x0, .int .i64 x1, .int .i64 x2]) (by kernel_rfl) (by kernel_rfl) (fun ⟨_,_,h⟩=>hEo ⟨_,_,h⟩) (HSZ.out _ z0.out) (fun hHeld=>?_)
     clear hHeld
     refine wpAnyH_take (i:=0) (v:=?_) rfl (by kernel_rfl) (by kernel_rfl) (by kernel_rfl) (fun _ _ _ h=>(hEp _ _ _ h).elim) (Or.inl ⟨by rfl,?_⟩) (HSZ.out _ z0.out) ?_
     rotate_left
     ·intro w hSw;(try dsimp only at hSw);go_simp;try with_reducible rfl
     try simp only [Act.put,zKx]
     refine wpAnyH_take (i:=1) (v:=?_) rfl (by kernel_rfl) (by kernel_rfl) (by kernel_rfl) (fun _ _ _ h=>(hEp _ _ _ h).elim) (Or.inl ⟨by rfl,?_⟩) (HSZ.out _ z0.out) ?_
     rotate_left
     ·intro w hSw;(try dsimp only at hSw);go_simp;try with_reducible rfl
     try simp only [Act.put,zKx]
     refine wpAnyH_take (i:=2) (v:=?_) rfl (by kernel_rfl) (by kernel_rfl) (by kernel_rfl) (fun _ _ _ h=>(hEp _ _ _ h).elim) (Or.inl ⟨by rfl,?_⟩) (HSZ.out _ z0.out) ?_
     rotate_left
     ·intro w hSw;(try dsimp only at hSw);go_simp;try with_reducible rfl
     try simp only [Act.put,zKx]
     refine wpAnyH_take (i:=3) (v:=undef) rfl (by kernel_rfl) (by kernel_rfl) (by kernel_rfl) (fun _ _ _ h=>(hEp _ _ _ h).elim) (Or.inr ⟨by rfl,rfl⟩) (HSZ.out _ z0.out) ?_
     try simp only [Act.put,zKx]
     refine wpAnyH_take (i:=4) (v:=undef) rfl (by kernel_rfl) (by kernel_rfl) (by kernel_rfl) (fun _ _ _ h=>(hEp _ _ _ h).elim) (Or.inr ⟨by rfl,rfl⟩) (HSZ.out _ z0.out) ?_
     try simp only [Act.put,zKx]
     refine wpAnyH_take (i:=5) (v:=undef) rfl (by kernel_rfl) (by kernel_rfl) (by kernel_rfl) (fun _ _ _ h=>(hEp _ _ _ h).elim) (Or.inr ⟨by rfl,rfl⟩) (HSZ.out _ z0.out) ?_
     try simp only [Act.put,zKx]
     refine wpAnyH_take (i:=6) (v:=undef) rfl (by kernel_rfl) (by kernel_rfl) (by kernel_rfl) (fun _ _ _ h=>(hEp _ _ _ h).elim) (Or.inr ⟨by rfl,rfl⟩) (HSZ.out _ z0.out) ?_
     try simp only [Act.put,zKx]
     refine wpAnyH_take (i:=7) (v:=?_) rfl (by kernel_rfl) (by kernel_rfl) (by kernel_rfl) (fun _ _ _ h=>(hEp _ _ _ h).elim) (Or.inl ⟨by rfl,?_⟩) (HSZ.out _ z0.out) ?_
     rotate_left
     ·intro w hSw;(try dsimp only at hSw);go_simp;try with_reducible rfl
     try simp only [Act.put,zKx]
     refine wpAnyH_take (i:=8) (v:=?_) rfl (by kernel_rfl) (by kernel_rfl) (by kernel_rfl) (fun _ _ _ h=>(hEp _ _ _ h).elim) (Or.inl ⟨by rfl,?_⟩) (HSZ.out _ z0.out) ?_
     rotate_left
     ·intro w hSw;(try dsimp only at hSw);go_simp;try with_reducible rfl
     try simp only [Act.put,zKx]
     refine wpAnyH_take (i:=9) rfl (by kernel_rfl) (by kernel_rfl) (by kernel_rfl) (fun _ _ _ h=>(hEp _ _ _ h).elim) (zXh (by rfl) _ _ rfl _ rfl _ _ _ (fun wz h=>h.2.2.2.1) Tryz.underlying36 rfl (by exact zT5)) (HSZ.out _ z0.out) ?_
     try simp only [Act.put,zKx]
     refine wpAnyH_take (i:=10) (v:=?_) rfl (by kernel_rfl) (by kernel_rfl) (by kernel_rfl) (fun _ _ _ h=>(hEp _ _ _ h).elim) (Or.inl ⟨by rfl,?_⟩) (HSZ.out _ z0.out) ?_
     rotate_left
     ·intro w hSw;(try dsimp only at hSw);go_simp;try with_reducible rfl
     try simp only [Act.put,zKx]
     refine wpAnyH_take (i:=11) (v:=?_) rfl (by kernel_rfl) (by kernel_rfl) (by kernel_rfl) (fun _ _ _ h=>(hEp _ _ _ h).elim) (Or.inl ⟨by rfl,?_⟩) (HSZ.out _ z0.out) ?_
     rotate_left
     ·intro w hSw;(try dsimp only at hSw);go_simp;try with_reducible rfl
     try simp only [Act.put,zKx]
     refine wpAnyH_take (i:=12) (v:=?_) rfl (by kernel_rfl) (by kernel_rfl) (by kernel_rfl) (fun _ _ _ h=>(hEp _ _ _ h).elim) (Or.inl ⟨by rfl,?_⟩) (HSZ.out _ z0.out) ?_
     rotate_left
     ·intro w hSw;(try dsimp only at hSw);go_simp;try with_reducible rfl
     try simp only [Act.put,zKx]
     refine wpAnyH_take (i:=13) (v:=undef) rfl (by kernel_rfl) (by kernel_rfl) (by kernel_rfl) (fun _ _ _ h=>(hEp _ _ _ h).elim) (Or.inr ⟨by rfl,rfl⟩) (HSZ.out _ z0.out) ?_
     try simp only [Act.put,zKx]
     refine wpAnyH_take (i:=14) (v:=undef) rfl (by kernel_rfl) (by kernel_rfl) (by kernel_rfl) (fun _ _ _ h=>(hEp _ _ _ h).elim) (Or.inr ⟨by rfl,rfl⟩) (HSZ.out _ z0.out) ?_
     try simp only [Act.put,zKx]
     refine wpAnyH_take (i:=15) (v:=undef) rfl (by kernel_rfl) (by kernel_rfl) (by kernel_rfl) (fun _ _ _ h=>(hEp _ _ _ h).elim) (Or.inr ⟨by rfl,rfl⟩) (HSZ.out _ z0.out) ?_
     try simp only [Act.put,zKx]
     refine wpAnyH_take (i:=16) (v:=undef) rfl (by kernel_rfl) (by kernel_rfl) (by kernel_rfl) (fun _ _ _ h=>(hEp _ _ _ h).elim) (Or.inr ⟨by rfl,rfl⟩) (HSZ.out _ z0.out) ?_
     try simp only [Act.put,zKx]
     refine wpAnyH_take (i:=17) (v:=undef) rfl (by kernel_rfl) (by kernel_rfl) (by kernel_rfl) (fun _ _ _ h=>(hEp _ _ _ h).elim) (Or.inr ⟨by rfl,rfl⟩) (HSZ.out _ z0.out) ?_
     try simp only [Act.put,zKx]
     refine wpAnyH_take (i:=18) (v:=undef) rfl (by kernel_rfl) (by kernel_rfl) (by kernel_rfl) (fun _ _ _ h=>(hEp _ _ _ h).elim) (Or.inr ⟨by rfl,rfl⟩) (HSZ.out _ z0.out) ?_
     try simp only [Act.put,zKx]
     refine wpAnyH_take (i:=19) (v:=undef) rfl (by kernel_rfl) (by kernel_rfl) (by kernel_rfl) (fun _ _ _ h=>(hEp _ _ _ h).elim) (Or.inr ⟨by rfl,rfl⟩) (HSZ.out _ z0.out) ?_
     try simp only [Act.put,zKx]
     refine wpAnyH_take (i:=20) (v:=?_) rfl (by kernel_rfl) (by kernel_rfl) (by kernel_rfl) (fun _ _ _ h=>(hEp _ _ _ h).elim) (Or.inl ⟨by rfl,?_⟩) (HSZ.out _ z0.out) ?_
     rotate_left
     ·intro w hSw;(try dsimp only at hSw);go_simp;try with_reducible rfl
     try simp only [Act.put,zKx]
     refine wpAnyH_take (i:=21) (v:=?_) rfl (by kernel_rfl) (by kernel_rfl) (by kernel_rfl) (fun _ _ _ h=>(hEp _ _ _ h).elim) (Or.inl ⟨by rfl,?_⟩) (HSZ.out _ z0.out) ?_
     rotate_left
     ·intro w hSw;(try dsimp only at hSw);go_simp;try with_reducible rfl
     try simp only [Act.put,zKx]
     refine wpAnyH_done (by kernel_rfl) ?_ _
     gi_wp2
     exact HF.out _
    ·by_cases hk1:k= -1
     ·subst hk1
      gi_wp2
      refine zRz (S:=fun wz=>wz.cell? ⟨w.heap.size,0,none⟩=some (.int .i64 (-1))∧wz.cell? ⟨w.heap.size+3,0,none⟩=some (.map (some (w.heap.size+2)))∧wz.cell? ⟨X,0,none⟩=some (.int .i64 x0)∧zAI wz (w.heap.size+4) 36 #[.int .i64 0, .int .i64 0, .int .i64 0]∧zAI wz X 36 #[.int .i64 x0, .int .i64 x1, .int .i64 x2]) (by kernel_rfl) (by kernel_rfl) (fun ⟨_,_,h⟩=>hEo ⟨_,_,h⟩) (HSZ.out _ z0.out) (fun hHeld=>?_)
      clear hHeld
      refine wpAnyH_take (i:=0) (v:=?_) rfl (by kernel_rfl) (by kernel_rfl) (by kernel_rfl) (fun _ _ _ h=>(hEp _ _ _ h).elim) (Or.inl ⟨by rfl,?_⟩) (HSZ.out _ z0.out) ?_
      rotate_left
      ·intro w hSw;(try dsimp only at hSw);go_simp;try with_reducible rfl
      try simp only [Act.put,zKx]
      refine wpAnyH_take (i:=1) (v:=?_) rfl (by kernel_rfl) (by kernel_rfl) (by kernel_rfl) (fun _ _ _ h=>(hEp _ _ _ h).elim) (Or.inl ⟨by rfl,?_⟩) (HSZ.out _ z0.out) ?_
      rotate_left
      ·intro w hSw;(try dsimp only at hSw);go_simp;try with_reducible rfl
      try simp only [Act.put,zKx]
      refine wpAnyH_take (i:=2) (v:=?_) rfl (by kernel_rfl) (by kernel_rfl) (by kernel_rfl) (fun _ _ _ h=>(hEp _ _ _ h).elim) (Or.inl ⟨by rfl,?_⟩) (HSZ.out _ z0.out) ?_
      rotate_left
      ·intro w hSw;(try dsimp only at hSw);go_simp;try with_reducible rfl
      try simp only [Act.put,zKx]
      refine wpAnyH_take (i:=3) (v:=undef) rfl (by kernel_rfl) (by kernel_rfl) (by kernel_rfl) (fun _ _ _ h=>(hEp _ _ _ h).elim) (Or.inr ⟨by rfl,rfl⟩) (HSZ.out _ z0.out) ?_
      try simp only [Act.put,zKx]
      refine wpAnyH_take (i:=4) (v:=undef) rfl (by kernel_rfl) (by kernel_rfl) (by kernel_rfl) (fun _ _ _ h=>(hEp _ _ _ h).elim) (Or.inr ⟨by rfl,rfl⟩) (HSZ.out _ z0.out) ?_
      try simp only [Act.put,zKx]
      refine wpAnyH_take (i:=5) (v:=undef) rfl (by kernel_rfl) (by kernel_rfl) (by kernel_rfl) (fun _ _ _ h=>(hEp _ _ _ h).elim) (Or.inr ⟨by rfl,rfl⟩) (HSZ.out _ z0.out) ?_
      try simp only [Act.put,zKx]
      refine wpAnyH_take (i:=6) (v:=undef) rfl (by kernel_rfl) (by kernel_rfl) (by kernel_rfl) (fun _ _ _ h=>(hEp _ _ _ h).elim) (Or.inr ⟨by rfl,rfl⟩) (HSZ.out _ z0.out) ?_
      try simp only [Act.put,zKx]
      refine wpAnyH_take (i:=7) (v:=?_) rfl (by kernel_rfl) (by kernel_rfl) (by kernel_rfl) (fun _ _ _ h=>(hEp _ _ _ h).elim) (Or.inl ⟨by rfl,?_⟩) (HSZ.out _ z0.out) ?_
      rotate_left
      ·intro w hSw;(try dsimp only at hSw);go_simp;try with_reducible rfl
      try simp only [Act.put,zKx]
      refine wpAnyH_take (i:=8) (v:=?_) rfl (by kernel_rfl) (by kernel_rfl) (by kernel_rfl) (fun _ _ _ h=>(hEp _ _ _ h).elim) (Or.inl ⟨by rfl,?_⟩) (HSZ.out _ z0.out) ?_
      rotate_left
      ·intro w hSw;(try dsimp only at hSw);go_simp;try with_reducible rfl
      try simp only [Act.put,zKx]
      refine wpAnyH_take (i:=9) rfl (by kernel_rfl) (by kernel_rfl) (by kernel_rfl) (fun _ _ _ h=>(hEp _ _ _ h).elim) (zXh (by rfl) _ _ rfl _ rfl _ _ _ (fun wz h=>h.2.2.2.1) Tryz.underlying36 rfl (by exact zT5)) (HSZ.out _ z0.out) ?_
      try simp only [Act.put,zKx]
      refine wpAnyH_take (i:=10) (v:=?_) rfl (by kernel_rfl) (by kernel_rfl) (by kernel_rfl) (fun _ _ _ h=>(hEp _ _ _ h).elim) (Or.inl ⟨by rfl,?_⟩) (HSZ.out _ z0.out) ?_
      rotate_left
      ·intro w hSw;(try dsimp only at hSw);go_simp;try with_reducible rfl
      try simp only [Act.put,zKx]
      refine wpAnyH_take (i:=11) (v:=?_) rfl (by kernel_rfl) (by kernel_rfl) (by kernel_rfl) (fun _ _ _ h=>(hEp _ _ _ h).elim) (Or.inl ⟨by rfl,?_⟩) (HSZ.out _ z0.out) ?_
      rotate_left
      ·intro w hSw;(try dsimp only at hSw);go_simp;try with_reducible rfl
      try simp only [Act.put,zKx]
      refine wpAnyH_take (i:=12) (v:=?_) rfl (by kernel_rfl) (by kernel_rfl) (by kernel_rfl) (fun _ _ _ h=>(hEp _ _ _ h).elim) (Or.inl ⟨by rfl,?_⟩) (HSZ.out _ z0.out) ?_
      rotate_left
      ·intro w hSw;(try dsimp only at hSw);go_simp;try with_reducible rfl
      try simp only [Act.put,zKx]
      refine wpAnyH_take (i:=13) (v:=undef) rfl (by kernel_rfl) (by kernel_rfl) (by kernel_rfl) (fun _ _ _ h=>(hEp _ _ _ h).elim) (Or.inr ⟨by rfl,rfl⟩) (HSZ.out _ z0.out) ?_
      try simp only [Act.put,zKx]
      refine wpAnyH_take (i:=14) (v:=undef) rfl (by kernel_rfl) (by kernel_rfl) (by kernel_rfl) (fun _ _ _ h=>(hEp _ _ _ h).elim) (Or.inr ⟨by rfl,rfl⟩) (HSZ.out _ z0.out) ?_
      try simp only [Act.put,zKx]
      refine wpAnyH_take (i:=15) (v:=undef) rfl (by kernel_rfl) (by kernel_rfl) (by kernel_rfl) (fun _ _ _ h=>(hEp _ _ _ h).elim) (Or.inr ⟨by rfl,rfl⟩) (HSZ.out _ z0.out) ?_
      try simp only [Act.put,zKx]
      refine wpAnyH_take (i:=16) (v:=undef) rfl (by kernel_rfl) (by kernel_rfl) (by kernel_rfl) (fun _ _ _ h=>(hEp _ _ _ h).elim) (Or.inr ⟨by rfl,rfl⟩) (HSZ.out _ z0.out) ?_
      try simp only [Act.put,zKx]
      refine wpAnyH_take (i:=17) (v:=undef) rfl (by kernel_rfl) (by kernel_rfl) (by kernel_rfl) (fun _ _ _ h=>(hEp _ _ _ h).elim) (Or.inr ⟨by rfl,rfl⟩) (HSZ.out _ z0.out) ?_
      try simp only [Act.put,zKx]
      refine wpAnyH_take (i:=18) (v:=undef) rfl (by kernel_rfl) (by kernel_rfl) (by kernel_rfl) (fun _ _ _ h=>(hEp _ _ _ h).elim) (Or.inr ⟨by rfl,rfl⟩) (HSZ.out _ z0.out) ?_
      try simp only [Act.put,zKx]
      refine wpAnyH_take (i:=19) (v:=undef) rfl (by kernel_rfl) (by kernel_rfl) (by kernel_rfl) (fun _ _ _ h=>(hEp _ _ _ h).elim) (Or.inr ⟨by rfl,rfl⟩) (HSZ.out _ z0.out) ?_
      try simp only [Act.put,zKx]
      refine wpAnyH_take (i:=20) (v:=?_) rfl (by kernel_rfl) (by kernel_rfl) (by kernel_rfl) (fun _ _ _ h=>(hEp _ _ _ h).elim) (Or.inl ⟨by rfl,?_⟩) (HSZ.out _ z0.out) ?_
      rotate_left
      ·intro w hSw;(try dsimp only at hSw);go_simp;try with_reducible rfl
      try simp only [Act.put,zKx]
      refine wpAnyH_take (i:=21) (v:=?_) rfl (by kernel_rfl) (by kernel_rfl) (by kernel_rfl) (fun _ _ _ h=>(hEp _ _ _ h).elim) (Or.inl ⟨by rfl,?_⟩) (HSZ.out _ z0.out) ?_
      rotate_left
      ·intro w hSw;(try dsimp only at hSw);go_simp;try with_reducible rfl
      try simp only [Act.put,zKx]
      refine wpAnyH_done (by kernel_rfl) ?_ _
      gi_wp2
      exact HF.out _
     have hk1:(k == -1)=false:=by rw [beq_eq_false_iff_ne];exact hk1
     subst hk
     gi_wp2
     refine zRz (S:=fun wz=>wz.cell? ⟨w.heap.size,0,none⟩=some (.int .i64 k)∧wz.cell? ⟨w.heap.size+3,0,none⟩=some (.map (some (w.heap.size+2)))∧wz.cell? ⟨X,0,none⟩=some (.int .i64 k)∧zAI wz (w.heap.size+4) 36 #[.int .i64 0, .int .i64 0, .int .i64 0]∧zAI wz X 36 #[.int .i64 k, .int .i64 x1, .int .i64 x2]) (by kernel_rfl) (by kernel_rfl) (fun ⟨_,_,h⟩=>hEo ⟨_,_,h⟩) (HSZ.out _ z0.out) (fun hHeld=>?_)
     clear hHeld
     refine wpAnyH_take (i:=0) (v:=?_) rfl (by kernel_rfl) (by kernel_rfl) (by kernel_rfl) (fun _ _ _ h=>(hEp _ _ _ h).elim) (Or.inl ⟨by rfl,?_⟩) (HSZ.out _ z0.out) ?_
     rotate_left
     ·intro w hSw;(try dsimp only at hSw);go_simp;try with_reducible rfl
     try simp only [Act.put,zKx]
     refine wpAnyH_take (i:=1) (v:=?_) rfl (by kernel_rfl) (by kernel_rfl) (by kernel_rfl) (fun _ _ _ h=>(hEp _ _ _ h).elim) (Or.inl ⟨by rfl,?_⟩) (HSZ.out _ z0.out) ?_
     rotate_left
     ·intro w hSw;(try dsimp only at hSw);go_simp;try with_reducible rfl
     try simp only [Act.put,zKx]
     refine wpAnyH_take (i:=2) (v:=?_) rfl (by kernel_rfl) (by kernel_rfl) (by kernel_rfl) (fun _ _ _ h=>(hEp _ _ _ h).elim) (Or.inl ⟨by rfl,?_⟩) (HSZ.out _ z0.out) ?_
     rotate_left
     ·intro w hSw;(try dsimp only at hSw);go_simp;try with_reducible rfl
     try simp only [Act.put,zKx]
     refine wpAnyH_take (i:=3) (v:=?_) rfl (by kernel_rfl) (by kernel_rfl) (by kernel_rfl) (fun _ _ _ h=>(hEp _ _ _ h).elim) (Or.inl ⟨by rfl,?_⟩) (HSZ.out _ z0.out) ?_
     rotate_left
     ·intro w hSw;(try dsimp only at hSw);go_simp;try with_reducible rfl
     try simp only [Act.put,zKx]
     refine wpAnyH_take (i:=4) (v:=?_) rfl (by kernel_rfl) (by kernel_rfl) (by kernel_rfl) (fun _ _ _ h=>(hEp _ _ _ h).elim) (Or.inl ⟨by rfl,?_⟩) (HSZ.out _ z0.out) ?_
     rotate_left
     ·intro w hSw;(try dsimp only at hSw);go_simp;try with_reducible rfl
     try simp only [Act.put,zKx]
     refine wpAnyH_take (i:=5) (v:=?_) rfl (by kernel_rfl) (by kernel_rfl) (by kernel_rfl) (fun _ _ _ h=>(hEp _ _ _ h).elim) (Or.inl ⟨by rfl,?_⟩) (HSZ.out _ z0.out) ?_
     rotate_left
     ·intro w hSw;(try dsimp only at hSw);go_simp;try with_reducible rfl
     try simp only [Act.put,zKx]
     refine wpAnyH_take (i:=6) (v:=?_) rfl (by kernel_rfl) (by kernel_rfl) (by kernel_rfl) (fun _ _ _ h=>(hEp _ _ _ h).elim) (Or.inl ⟨by rfl,?_⟩) (HSZ.out _ z0.out) ?_
     rotate_left
     ·intro w hSw;(try dsimp only at hSw);go_simp;try with_reducible rfl
     try simp only [Act.put,zKx]
     refine wpAnyH_take (i:=7) (v:=?_) rfl (by kernel_rfl) (by kernel_rfl) (by kernel_rfl) (fun _ _ _ h=>(hEp _ _ _ h).elim) (Or.inl ⟨by rfl,?_⟩) (HSZ.out _ z0.out) ?_
     rotate_left
     ·intro w hSw;(try dsimp only at hSw);go_simp;try with_reducible rfl
     try simp only [Act.put,zKx]
     refine wpAnyH_take (i:=8) (v:=?_) rfl (by kernel_rfl) (by kernel_rfl) (by kernel_rfl) (fun _ _ _ h=>(hEp _ _ _ h).elim) (Or.inl ⟨by rfl,?_⟩) (HSZ.out _ z0.out) ?_
     rotate_left
     ·intro w hSw;(try dsimp only at hSw);go_simp;try with_reducible rfl
     try simp only [Act.put,zKx]
     refine wpAnyH_take (i:=9) rfl (by kernel_rfl) (by kernel_rfl) (by kernel_rfl) (fun _ _ _ h=>(hEp _ _ _ h).elim) (zXh (by rfl) _ _ rfl _ rfl _ _ _ (fun wz h=>h.2.2.2.1) Tryz.underlying36 rfl (by exact zT5)) (HSZ.out _ z0.out) ?_
     try simp only [Act.put,zKx]
     refine wpAnyH_take (i:=10) (v:=?_) rfl (by kernel_rfl) (by kernel_rfl) (by kernel_rfl) (fun _ _ _ h=>(hEp _ _ _ h).elim) (Or.inl ⟨by rfl,?_⟩) (HSZ.out _ z0.out) ?_
     rotate_left
     ·intro w hSw;(try dsimp only at hSw);go_simp;try with_reducible rfl
     try simp only [Act.put,zKx]
     refine wpAnyH_take (i:=11) (v:=?_) rfl (by kernel_rfl) (by kernel_rfl) (by kernel_rfl) (fun _ _ _ h=>(hEp _ _ _ h).elim) (Or.inl ⟨by rfl,?_⟩) (HSZ.out _ z0.out) ?_
     rotate_left
     ·intro w hSw;(try dsimp only at hSw);go_simp;try with_reducible rfl
     try simp only [Act.put,zKx]
     refine wpAnyH_take (i:=12) (v:=?_) rfl (by kernel_rfl) (by kernel_rfl) (by kernel_rfl) (fun _ _ _ h=>(hEp _ _ _ h).elim) (Or.inl ⟨by rfl,?_⟩) (HSZ.out _ z0.out) ?_
     rotate_left
     ·intro w hSw;(try dsimp only at hSw);go_simp;try with_reducible rfl
     try simp only [Act.put,zKx]
     refine wpAnyH_take (i:=13) (v:=undef) rfl (by kernel_rfl) (by kernel_rfl) (by kernel_rfl) (fun _ _ _ h=>(hEp _ _ _ h).elim) (Or.inr ⟨by rfl,rfl⟩) (HSZ.out _ z0.out) ?_
     try simp only [Act.put,zKx]
     refine wpAnyH_take (i:=14) (v:=undef) rfl (by kernel_rfl) (by kernel_rfl) (by kernel_rfl) (fun _ _ _ h=>(hEp _ _ _ h).elim) (Or.inr ⟨by rfl,rfl⟩) (HSZ.out _ z0.out) ?_
     try simp only [Act.put,zKx]
     refine wpAnyH_take (i:=15) (v:=undef) rfl (by kernel_rfl) (by kernel_rfl) (by kernel_rfl) (fun _ _ _ h=>(hEp _ _ _ h).elim) (Or.inr ⟨by rfl,rfl⟩) (HSZ.out _ z0.out) ?_
     try simp only [Act.put,zKx]
     refine wpAnyH_take (i:=16) (v:=undef) rfl (by kernel_rfl) (by kernel_rfl) (by kernel_rfl) (fun _ _ _ h=>(hEp _ _ _ h).elim) (Or.inr ⟨by rfl,rfl⟩) (HSZ.out _ z0.out) ?_
     try simp only [Act.put,zKx]
     refine wpAnyH_take (i:=17) (v:=undef) rfl (by kernel_rfl) (by kernel_rfl) (by kernel_rfl) (fun _ _ _ h=>(hEp _ _ _ h).elim) (Or.inr ⟨by rfl,rfl⟩) (HSZ.out _ z0.out) ?_
     try simp only [Act.put,zKx]
     refine wpAnyH_take (i:=18) (v:=undef) rfl (by kernel_rfl) (by kernel_rfl) (by kernel_rfl) (fun _ _ _ h=>(hEp _ _ _ h).elim) (Or.inr ⟨by rfl,rfl⟩) (HSZ.out _ z0.out) ?_
     try simp only [Act.put,zKx]
     refine wpAnyH_take (i:=19) (v:=undef) rfl (by kernel_rfl) (by kernel_rfl) (by kernel_rfl) (fun _ _ _ h=>(hEp _ _ _ h).elim) (Or.inr ⟨by rfl,rfl⟩) (HSZ.out _ z0.out) ?_
     try simp only [Act.put,zKx]
     refine wpAnyH_take (i:=20) (v:=?_) rfl (by kernel_rfl) (by kernel_rfl) (by kernel_rfl) (fun _ _ _ h=>(hEp _ _ _ h).elim) (Or.inl ⟨by rfl,?_⟩) (HSZ.out _ z0.out) ?_
     rotate_left
     ·intro w hSw;(try dsimp only at hSw);go_simp;try with_reducible rfl
     try simp only [Act.put,zKx]
     refine wpAnyH_take (i:=21) (v:=?_) rfl (by kernel_rfl) (by kernel_rfl) (by kernel_rfl) (fun _ _ _ h=>(hEp _ _ _ h).elim) (Or.inl ⟨by rfl,?_⟩) (HSZ.out _ z0.out) ?_
     rotate_left
     ·intro w hSw;(try dsimp only at hSw);go_simp;try with_reducible rfl
     try simp only [Act.put,zKx]
     refine wpAnyH_done (by kernel_rfl) ?_ _
     gi_wp2
     exact HF.out _
   ·have hcan:CanP (b0,b1,b2):=HCb.out.resolve_left (fun h=>hz (by
     injection h with h1 h2
     injection h2 with h2 h3
     exact ⟨h1,h2,h3⟩))
    have HB:=Lib.hid (HB.out hcan)
    have heq2:(b0 == 0 && b1 == 0 && b2 == 0)=false:=by
     rw [Bool.eq_false_iff]
     intro h
     simp only [Bool.and_eq_true,beq_iff_eq] at h
     exact hz ⟨h.1.1,h.1.2,h.2⟩
    rw [heq2] at heq
    have hzz: ¬(b0,b1,b2)=((0:Int),(0:Int),(0:Int)):=fun h=>hz (by
     injection h with h1 h2
     injection h2 with h2 h3
     exact ⟨h1,h2,h3⟩)
    by_cases hlt:cx<cb
    ·have td:decide (cx<cb)=true:=decide_eq_true hlt
     have HT:Hid (chz k (b0,b1,b2) (x0,x1,x2)=(x0,x1,x2)):=Lib.hid (by rw [HChE.out,if_pos ⟨hk, .inr hlt⟩])
     clear HSt HChE hz hzz heq2 hcan HCb
     by_cases hk1:k= -1
     ·subst hk1
      clear hk
      gi_wp2
      refine zRz (S:=fun wz=>wz.cell? ⟨w.heap.size,0,none⟩=some (.int .i64 (-1))∧wz.cell? ⟨w.heap.size+3,0,none⟩=some (.map (some (w.heap.size+2)))∧wz.cell? ⟨X,0,none⟩=some (.int .i64 x0)∧zAI wz (w.heap.size+4) 36 #[.int .i64 b0, .int .i64 b1, .int .i64 b2]∧zAI wz X 36 #[.int .i64 x0, .int .i64 x1, .int .i64 x2]) (by kernel_rfl) (by kernel_rfl) (fun ⟨_,_,h⟩=>hEo ⟨_,_,h⟩) (HSZ.out _ z0.out) (fun hHeld=>?_)
      clear hHeld
      refine wpAnyH_take (i:=0) (v:=?_) rfl (by kernel_rfl) (by kernel_rfl) (by kernel_rfl) (fun _ _ _ h=>(hEp _ _ _ h).elim) (Or.inl ⟨by rfl,?_⟩) (HSZ.out _ z0.out) ?_
      rotate_left
      ·intro w hSw;(try dsimp only at hSw);go_simp;try with_reducible rfl
      try simp only [Act.put,zKx]
      refine wpAnyH_take (i:=1) (v:=?_) rfl (by kernel_rfl) (by kernel_rfl) (by kernel_rfl) (fun _ _ _ h=>(hEp _ _ _ h).elim) (Or.inl ⟨by rfl,?_⟩) (HSZ.out _ z0.out) ?_
      rotate_left
      ·intro w hSw;(try dsimp only at hSw);go_simp;try with_reducible rfl
      try simp only [Act.put,zKx]
      refine wpAnyH_take (i:=2) (v:=?_) rfl (by kernel_rfl) (by kernel_rfl) (by kernel_rfl) (fun _ _ _ h=>(hEp _ _ _ h).elim) (Or.inl ⟨by rfl,?_⟩) (HSZ.out _ z0.out) ?_
      rotate_left
      ·intro w hSw;(try dsimp only at hSw);go_simp;try with_reducible rfl
      try simp only [Act.put,zKx]
      refine wpAnyH_take (i:=3) (v:=undef) rfl (by kernel_rfl) (by kernel_rfl) (by kernel_rfl) (fun _ _ _ h=>(hEp _ _ _ h).elim) (Or.inr ⟨by rfl,rfl⟩) (HSZ.out _ z0.out) ?_
      try simp only [Act.put,zKx]
      refine wpAnyH_take (i:=4) (v:=undef) rfl (by kernel_rfl) (by kernel_rfl) (by kernel_rfl) (fun _ _ _ h=>(hEp _ _ _ h).elim) (Or.inr ⟨by rfl,rfl⟩) (HSZ.out _ z0.out) ?_
      try simp only [Act.put,zKx]
      refine wpAnyH_take (i:=5) (v:=undef) rfl (by kernel_rfl) (by kernel_rfl) (by kernel_rfl) (fun _ _ _ h=>(hEp _ _ _ h).elim) (Or.inr ⟨by rfl,rfl⟩) (HSZ.out _ z0.out) ?_
      try simp only [Act.put,zKx]
      refine wpAnyH_take (i:=6) (v:=undef) rfl (by kernel_rfl) (by kernel_rfl) (by kernel_rfl) (fun _ _ _ h=>(hEp _ _ _ h).elim) (Or.inr ⟨by rfl,rfl⟩) (HSZ.out _ z0.out) ?_
      try simp only [Act.put,zKx]
      refine wpAnyH_take (i:=7) (v:=?_) rfl (by kernel_rfl) (by kernel_rfl) (by kernel_rfl) (fun _ _ _ h=>(hEp _ _ _ h).elim) (Or.inl ⟨by rfl,?_⟩) (HSZ.out _ z0.out) ?_
      rotate_left
      ·intro w hSw;(try dsimp only at hSw);go_simp;try with_reducible rfl
      try simp only [Act.put,zKx]
      refine wpAnyH_take (i:=8) (v:=?_) rfl (by kernel_rfl) (by kernel_rfl) (by kernel_rfl) (fun _ _ _ h=>(hEp _ _ _ h).elim) (Or.inl ⟨by rfl,?_⟩) (HSZ.out _ z0.out) ?_
      rotate_left
      ·intro w hSw;(try dsimp only at hSw);go_simp;try with_reducible rfl
      try simp only [Act.put,zKx]
      refine wpAnyH_take (i:=9) rfl (by kernel_rfl) (by kernel_rfl) (by kernel_rfl) (fun _ _ _ h=>(hEp _ _ _ h).elim) (zXh (by rfl) _ _ rfl _ rfl _ _ _ (fun wz h=>h.2.2.2.1) Tryz.underlying36 rfl (by exact zT5)) (HSZ.out _ z0.out) ?_
      try simp only [Act.put,zKx]
      refine wpAnyH_take (i:=10) (v:=?_) rfl (by kernel_rfl) (by kernel_rfl) (by kernel_rfl) (fun _ _ _ h=>(hEp _ _ _ h).elim) (Or.inl ⟨by rfl,?_⟩) (HSZ.out _ z0.out) ?_
      rotate_left
      ·intro w hSw;(try dsimp only at hSw);go_simp;try with_reducible rfl
      try simp only [Act.put,zKx]
      refine wpAnyH_take (i:=11) (v:=?_) rfl (by kernel_rfl) (by kernel_rfl) (by kernel_rfl) (fun _ _ _ h=>(hEp _ _ _ h).elim) (Or.inl ⟨by rfl,?_⟩) (HSZ.out _ z0.out) ?_
      rotate_left
      ·intro w hSw;(try dsimp only at hSw);go_simp;try with_reducible rfl
      try simp only [Act.put,zKx]
      refine wpAnyH_take (i:=12) (v:=?_) rfl (by kernel_rfl) (by kernel_rfl) (by kernel_rfl) (fun _ _ _ h=>(hEp _ _ _ h).elim) (Or.inl ⟨by rfl,?_⟩) (HSZ.out _ z0.out) ?_
      rotate_left
      ·intro w hSw;(try dsimp only at hSw);go_simp;try with_reducible rfl
      try simp only [Act.put,zKx]
      refine wpAnyH_take (i:=13) (v:=?_) rfl (by kernel_rfl) (by kernel_rfl) (by kernel_rfl) (fun _ _ _ h=>(hEp _ _ _ h).elim) (Or.inl ⟨by rfl,?_⟩) (HSZ.out _ z0.out) ?_
      rotate_left
      ·intro w hSw;(try dsimp only at hSw);go_simp;try with_reducible rfl
      try simp only [Act.put,zKx]
      refine wpAnyH_take (i:=14) rfl (by kernel_rfl) (by kernel_rfl) (by kernel_rfl) (fun _ _ _ h=>(hEp _ _ _ h).elim) (zXh (by rfl) _ _ rfl _ rfl _ _ _ (fun wz h=>h.2.2.2.2) Tryz.underlying36 rfl (by exact zT5)) (HSZ.out _ z0.out) ?_
      try simp only [Act.put,zKx]
      refine wpAnyH_take (i:=16) (v:=?_) rfl (by kernel_rfl) (by kernel_rfl) (by kernel_rfl) (fun _ _ _ h=>(hEp _ _ _ h).elim) (Or.inl ⟨by rfl,?_⟩) (HSZ.out _ z0.out) ?_
      rotate_left
      ·intro w hSw;(try dsimp only at hSw);go_simp;try with_reducible rfl
      try simp only [Act.put,zKx]
      refine wpAnyH_take (i:=17) rfl (by kernel_rfl) (by kernel_rfl) (by kernel_rfl) (fun _ _ _ h=>(hEp _ _ _ h).elim) (zXh (by rfl) _ _ rfl _ rfl _ _ _ (fun wz h=>h.2.2.2.1) Tryz.underlying36 rfl (by exact zT5)) (HSZ.out _ z0.out) ?_
      try simp only [Act.put,zKx]
      refine wpAnyH_ready (rs:= [15]) (by kernel_rfl) (by simp) ?_
      refine AllReadyH.cons rfl (fun K hK=>?_) AllReadyH.nil
      try simp only [zKx]
      rw [if_pos (by rfl)]
      go_wp2_with (go_at_call 56;refine (HX.out _ z0.out).mono ?_;rintro e w8 ⟨rfl,z8⟩)
      have z8:=Lib.hid z8
      refine hK.out _ _ ((HSZ.out _ z8.out)) (fun _=>?_)
      clear hK K
      try simp only [Act.put,zKx]
      refine wpAnyH_ready (rs:= [18]) (by kernel_rfl) (by simp) ?_
      refine AllReadyH.cons rfl (fun K hK=>?_) AllReadyH.nil
      try simp only [zKx]
      rw [if_pos (by rfl)]
      go_wp2_with (go_at_call 56;refine (HB.out _ z8.out).mono ?_;rintro e w9 ⟨rfl,z9⟩)
      have z9:=Lib.hid z9
      refine hK.out _ _ ((HSZ.out _ z9.out)) (fun _=>?_)
      clear hK K
      try simp only [Act.put,zKx]
      refine wpAnyH_take (i:=19) (v:=?_) rfl (by kernel_rfl) (by kernel_rfl) (by kernel_rfl) (fun _ _ _ h=>(hEp _ _ _ h).elim) (Or.inl ⟨by rfl,?_⟩) (HSZ.out _ z9.out) ?_
      rotate_left
      ·intro w hSw;(try dsimp only at hSw);go_simp;try with_reducible rfl
      try simp only [Act.put,zKx]
      refine wpAnyH_take (i:=20) (v:=?_) rfl (by kernel_rfl) (by kernel_rfl) (by kernel_rfl) (fun _ _ _ h=>(hEp _ _ _ h).elim) (Or.inl ⟨by rfl,?_⟩) (HSZ.out _ z9.out) ?_
      rotate_left
      ·intro w hSw;(try dsimp only at hSw);go_simp;try with_reducible rfl
      try simp only [Act.put,zKx]
      refine wpAnyH_take (i:=21) (v:=?_) rfl (by kernel_rfl) (by kernel_rfl) (by kernel_rfl) (fun _ _ _ h=>(hEp _ _ _ h).elim) (Or.inl ⟨by rfl,?_⟩) (HSZ.out _ z9.out) ?_
      rotate_left
      ·intro w hSw;(try dsimp only at hSw);go_simp;try with_reducible rfl
      try simp only [Act.put,zKx]
      refine wpAnyH_done (by kernel_rfl) ?_ _
      have HF:=Lib.hid (HTk.out _ z9.out HT.out)
      have d0:=z9.out.2.1.cell (i:=0) (v:= .int .i64 x0) rfl
      have d1:=z9.out.2.1.cell (i:=1) (v:= .int .i64 x1) rfl
      have d2:=z9.out.2.1.cell (i:=2) (v:= .int .i64 x2) rfl
      have y0:=z9.out.1.best.cell (i:=0) (v:= .int .i64 b0) rfl
      have y1:=z9.out.1.best.cell (i:=1) (v:= .int .i64 b1) rfl
      have y2:=z9.out.1.best.cell (i:=2) (v:= .int .i64 b2) rfl
      have f0:=z9.out.1.best.frozen 0
      have f1:=z9.out.1.best.frozen 1
      have f2:=z9.out.1.best.frozen 2
      gi_wp2
      exact HF.out _
     ·have hk:=hk.resolve_left hk1
      have hk1:(k == -1)=false:=by rw [beq_eq_false_iff_ne];exact hk1
      subst hk
      gi_wp2
      refine zRz (S:=fun wz=>wz.cell? ⟨w.heap.size,0,none⟩=some (.int .i64 k)∧wz.cell? ⟨w.heap.size+3,0,none⟩=some (.map (some (w.heap.size+2)))∧wz.cell? ⟨X,0,none⟩=some (.int .i64 k)∧zAI wz (w.heap.size+4) 36 #[.int .i64 b0, .int .i64 b1, .int .i64 b2]∧zAI wz X 36 #[.int .i64 k, .int .i64 x1, .int .i64 x2]) (by kernel_rfl) (by kernel_rfl) (fun ⟨_,_,h⟩=>hEo ⟨_,_,h⟩) (HSZ.out _ z0.out) (fun hHeld=>?_)
      clear hHeld
      refine wpAnyH_take (i:=0) (v:=?_) rfl (by kernel_rfl) (by kernel_rfl) (by kernel_rfl) (fun _ _ _ h=>(hEp _ _ _ h).elim) (Or.inl ⟨by rfl,?_⟩) (HSZ.out _ z0.out) ?_
      rotate_left
      ·intro w hSw;(try dsimp only at hSw);go_simp;try with_reducible rfl
      try simp only [Act.put,zKx]
      refine wpAnyH_take (i:=1) (v:=?_) rfl (by kernel_rfl) (by kernel_rfl) (by kernel_rfl) (fun _ _ _ h=>(hEp _ _ _ h).elim) (Or.inl ⟨by rfl,?_⟩) (HSZ.out _ z0.out) ?_
      rotate_left
      ·intro w hSw;(try dsimp only at hSw);go_simp;try with_reducible rfl
      try simp only [Act.put,zKx]
      refine wpAnyH_take (i:=2) (v:=?_) rfl (by kernel_rfl) (by kernel_rfl) (by kernel_rfl) (fun _ _ _ h=>(hEp _ _ _ h).elim) (Or.inl ⟨by rfl,?_⟩) (HSZ.out _ z0.out) ?_
      rotate_left
      ·intro w hSw;(try dsimp only at hSw);go_simp;try with_reducible rfl
      try simp only [Act.put,zKx]
      refine wpAnyH_take (i:=3) (v:=?_) rfl (by kernel_rfl) (by kernel_rfl) (by kernel_rfl) (fun _ _ _ h=>(hEp _ _ _ h).elim) (Or.inl ⟨by rfl,?_⟩) (HSZ.out _ z0.out) ?_
      rotate_left
      ·intro w hSw;(try dsimp only at hSw);go_simp;try with_reducible rfl
      try simp only [Act.put,zKx]
      refine wpAnyH_take (i:=4) (v:=?_) rfl (by kernel_rfl) (by kernel_rfl) (by kernel_rfl) (fun _ _ _ h=>(hEp _ _ _ h).elim) (Or.inl ⟨by rfl,?_⟩) (HSZ.out _ z0.out) ?_
      rotate_left
      ·intro w hSw;(try dsimp only at hSw);go_simp;try with_reducible rfl
      try simp only [Act.put,zKx]
      refine wpAnyH_take (i:=5) (v:=?_) rfl (by kernel_rfl) (by kernel_rfl) (by kernel_rfl) (fun _ _ _ h=>(hEp _ _ _ h).elim) (Or.inl ⟨by rfl,?_⟩) (HSZ.out _ z0.out) ?_
      rotate_left
      ·intro w hSw;(try dsimp only at hSw);go_simp;try with_reducible rfl
      try simp only [Act.put,zKx]
      refine wpAnyH_take (i:=6) (v:=?_) rfl (by kernel_rfl) (by kernel_rfl) (by kernel_rfl) (fun _ _ _ h=>(hEp _ _ _ h).elim) (Or.inl ⟨by rfl,?_⟩) (HSZ.out _ z0.out) ?_
      rotate_left
      ·intro w hSw;(try dsimp only at hSw);go_simp;try with_reducible rfl
      try simp only [Act.put,zKx]
      refine wpAnyH_take (i:=7) (v:=?_) rfl (by kernel_rfl) (by kernel_rfl) (by kernel_rfl) (fun _ _ _ h=>(hEp _ _ _ h).elim) (Or.inl ⟨by rfl,?_⟩) (HSZ.out _ z0.out) ?_
      rotate_left
      ·intro w hSw;(try dsimp only at hSw);go_simp;try with_reducible rfl
      try simp only [Act.put,zKx]
      refine wpAnyH_take (i:=8) (v:=?_) rfl (by kernel_rfl) (by kernel_rfl) (by kernel_rfl) (fun _ _ _ h=>(hEp _ _ _ h).elim) (Or.inl ⟨by rfl,?_⟩) (HSZ.out _ z0.out) ?_
      rotate_left
      ·intro w hSw;(try dsimp only at hSw);go_simp;try with_reducible rfl
      try simp only [Act.put,zKx]
      refine wpAnyH_take (i:=9) rfl (by kernel_rfl) (by kernel_rfl) (by kernel_rfl) (fun _ _ _ h=>(hEp _ _ _ h).elim) (zXh (by rfl) _ _ rfl _ rfl _ _ _ (fun wz h=>h.2.2.2.1) Tryz.underlying36 rfl (by exact zT5)) (HSZ.out _ z0.out) ?_
      try simp only [Act.put,zKx]
      refine wpAnyH_take (i:=10) (v:=?_) rfl (by kernel_rfl) (by kernel_rfl) (by kernel_rfl) (fun _ _ _ h=>(hEp _ _ _ h).elim) (Or.inl ⟨by rfl,?_⟩) (HSZ.out _ z0.out) ?_
      rotate_left
      ·intro w hSw;(try dsimp only at hSw);go_simp;try with_reducible rfl
      try simp only [Act.put,zKx]
      refine wpAnyH_take (i:=11) (v:=?_) rfl (by kernel_rfl) (by kernel_rfl) (by kernel_rfl) (fun _ _ _ h=>(hEp _ _ _ h).elim) (Or.inl ⟨by rfl,?_⟩) (HSZ.out _ z0.out) ?_
      rotate_left
      ·intro w hSw;(try dsimp only at hSw);go_simp;try with_reducible rfl
      try simp only [Act.put,zKx]
      refine wpAnyH_take (i:=12) (v:=?_) rfl (by kernel_rfl) (by kernel_rfl) (by kernel_rfl) (fun _ _ _ h=>(hEp _ _ _ h).elim) (Or.inl ⟨by rfl,?_⟩) (HSZ.out _ z0.out) ?_
      rotate_left
      ·intro w hSw;(try dsimp only at hSw);go_simp;try with_reducible rfl
      try simp only [Act.put,zKx]
      refine wpAnyH_take (i:=13) (v:=?_) rfl (by kernel_rfl) (by kernel_rfl) (by kernel_rfl) (fun _ _ _ h=>(hEp _ _ _ h).elim) (Or.inl ⟨by rfl,?_⟩) (HSZ.out _ z0.out) ?_
      rotate_left
      ·intro w hSw;(try dsimp only at hSw);go_simp;try with_reducible rfl
      try simp only [Act.put,zKx]
      refine wpAnyH_take (i:=14) rfl (by kernel_rfl) (by kernel_rfl) (by kernel_rfl) (fun _ _ _ h=>(hEp _ _ _ h).elim) (zXh (by rfl) _ _ rfl _ rfl _ _ _ (fun wz h=>h.2.2.2.2) Tryz.underlying36 rfl (by exact zT5)) (HSZ.out _ z0.out) ?_
      try simp only [Act.put,zKx]
      refine wpAnyH_take (i:=16) (v:=?_) rfl (by kernel_rfl) (by kernel_rfl) (by kernel_rfl) (fun _ _ _ h=>(hEp _ _ _ h).elim) (Or.inl ⟨by rfl,?_⟩) (HSZ.out _ z0.out) ?_
      rotate_left
      ·intro w hSw;(try dsimp only at hSw);go_simp;try with_reducible rfl
      try simp only [Act.put,zKx]
      refine wpAnyH_take (i:=17) rfl (by kernel_rfl) (by kernel_rfl) (by kernel_rfl) (fun _ _ _ h=>(hEp _ _ _ h).elim) (zXh (by rfl) _ _ rfl _ rfl _ _ _ (fun wz h=>h.2.2.2.1) Tryz.underlying36 rfl (by exact zT5)) (HSZ.out _ z0.out) ?_
      try simp only [Act.put,zKx]
      refine wpAnyH_ready (rs:= [15]) (by kernel_rfl) (by simp) ?_
      refine AllReadyH.cons rfl (fun K hK=>?_) AllReadyH.nil
      try simp only [zKx]
      rw [if_pos (by rfl)]
      go_wp2_with (go_at_call 56;refine (HX.out _ z0.out).mono ?_;rintro e w8 ⟨rfl,z8⟩)
      have z8:=Lib.hid z8
      refine hK.out _ _ ((HSZ.out _ z8.out)) (fun _=>?_)
      clear hK K
      try simp only [Act.put,zKx]
      refine wpAnyH_ready (rs:= [18]) (by kernel_rfl) (by simp) ?_
      refine AllReadyH.cons rfl (fun K hK=>?_) AllReadyH.nil
      try simp only [zKx]
      rw [if_pos (by rfl)]
      go_wp2_with (go_at_call 56;refine (HB.out _ z8.out).mono ?_;rintro e w9 ⟨rfl,z9⟩)
      have z9:=Lib.hid z9
      refine hK.out _ _ ((HSZ.out _ z9.out)) (fun _=>?_)
      clear hK K
      try simp only [Act.put,zKx]
      refine wpAnyH_take (i:=19) (v:=?_) rfl (by kernel_rfl) (by kernel_rfl) (by kernel_rfl) (fun _ _ _ h=>(hEp _ _ _ h).elim) (Or.inl ⟨by rfl,?_⟩) (HSZ.out _ z9.out) ?_
      rotate_left
      ·intro w hSw;(try dsimp only at hSw);go_simp;try with_reducible rfl
      try simp only [Act.put,zKx]
      refine wpAnyH_take (i:=20) (v:=?_) rfl (by kernel_rfl) (by kernel_rfl) (by kernel_rfl) (fun _ _ _ h=>(hEp _ _ _ h).elim) (Or.inl ⟨by rfl,?_⟩) (HSZ.out _ z9.out) ?_
      rotate_left
      ·intro w hSw;(try dsimp only at hSw);go_simp;try with_reducible rfl
      try simp only [Act.put,zKx]
      refine wpAnyH_take (i:=21) (v:=?_) rfl (by kernel_rfl) (by kernel_rfl) (by kernel_rfl) (fun _ _ _ h=>(hEp _ _ _ h).elim) (Or.inl ⟨by rfl,?_⟩) (HSZ.out _ z9.out) ?_
      rotate_left
      ·intro w hSw;(try dsimp only at hSw);go_simp;try with_reducible rfl
      try simp only [Act.put,zKx]
      refine wpAnyH_done (by kernel_rfl) ?_ _
      have HF:=Lib.hid (HTk.out _ z9.out HT.out)
      have d0:=z9.out.2.1.cell (i:=0) (v:= .int .i64 k) rfl
      have d1:=z9.out.2.1.cell (i:=1) (v:= .int .i64 x1) rfl
      have d2:=z9.out.2.1.cell (i:=2) (v:= .int .i64 x2) rfl
      have y0:=z9.out.1.best.cell (i:=0) (v:= .int .i64 b0) rfl
      have y1:=z9.out.1.best.cell (i:=1) (v:= .int .i64 b1) rfl
      have y2:=z9.out.1.best.cell (i:=2) (v:= .int .i64 b2) rfl
      have f0:=z9.out.1.best.frozen 0
      have f1:=z9.out.1.best.frozen 1
      have f2:=z9.out.1.best.frozen 2
      gi_wp2
      exact HF.out _
    ·have td:decide (cx<cb)=false:=decide_eq_false hlt
     have HT:Hid (chz k (b0,b1,b2) (x0,x1,x2)=(b0,b1,b2)):=Lib.hid (by rw [HChE.out,if_neg (fun h=>h.2.elim hzz hlt)])
     clear HTk HChE hz hzz heq2 hcan HCb
     by_cases hk1:k= -1
     ·subst hk1
      clear hk
      gi_wp2
      refine zRz (S:=fun wz=>wz.cell? ⟨w.heap.size,0,none⟩=some (.int .i64 (-1))∧wz.cell? ⟨w.heap.size+3,0,none⟩=some (.map (some (w.heap.size+2)))∧wz.cell? ⟨X,0,none⟩=some (.int .i64 x0)∧zAI wz (w.heap.size+4) 36 #[.int .i64 b0, .int .i64 b1, .int .i64 b2]∧zAI wz X 36 #[.int .i64 x0, .int .i64 x1, .int .i64 x2]) (by kernel_rfl) (by kernel_rfl) (fun ⟨_,_,h⟩=>hEo ⟨_,_,h⟩) (HSZ.out _ z0.out) (fun hHeld=>?_)
      clear hHeld
      refine wpAnyH_take (i:=0) (v:=?_) rfl (by kernel_rfl) (by kernel_rfl) (by kernel_rfl) (fun _ _ _ h=>(hEp _ _ _ h).elim) (Or.inl ⟨by rfl,?_⟩) (HSZ.out _ z0.out) ?_
      rotate_left
      ·intro w hSw;(try dsimp only at hSw);go_simp;try with_reducible rfl
      try simp only [Act.put,zKx]
      refine wpAnyH_take (i:=1) (v:=?_) rfl (by kernel_rfl) (by kernel_rfl) (by kernel_rfl) (fun _ _ _ h=>(hEp _ _ _ h).elim) (Or.inl ⟨by rfl,?_⟩) (HSZ.out _ z0.out) ?_
      rotate_left
      ·intro w hSw;(try dsimp only at hSw);go_simp;try with_reducible rfl
      try simp only [Act.put,zKx]
      refine wpAnyH_take (i:=2) (v:=?_) rfl (by kernel_rfl) (by kernel_rfl) (by kernel_rfl) (fun _ _ _ h=>(hEp _ _ _ h).elim) (Or.inl ⟨by rfl,?_⟩) (HSZ.out _ z0.out) ?_
      rotate_left
      ·intro w hSw;(try dsimp only at hSw);go_simp;try with_reducible rfl
      try simp only [Act.put,zKx]
      refine wpAnyH_take (i:=3) (v:=undef) rfl (by kernel_rfl) (by kernel_rfl) (by kernel_rfl) (fun _ _ _ h=>(hEp _ _ _ h).elim) (Or.inr ⟨by rfl,rfl⟩) (HSZ.out _ z0.out) ?_
      try simp only [Act.put,zKx]
      refine wpAnyH_take (i:=4) (v:=undef) rfl (by kernel_rfl) (by kernel_rfl) (by kernel_rfl) (fun _ _ _ h=>(hEp _ _ _ h).elim) (Or.inr ⟨by rfl,rfl⟩) (HSZ.out _ z0.out) ?_
      try simp only [Act.put,zKx]
      refine wpAnyH_take (i:=5) (v:=undef) rfl (by kernel_rfl) (by kernel_rfl) (by kernel_rfl) (fun _ _ _ h=>(hEp _ _ _ h).elim) (Or.inr ⟨by rfl,rfl⟩) (HSZ.out _ z0.out) ?_
      try simp only [Act.put,zKx]
      refine wpAnyH_take (i:=6) (v:=undef) rfl (by kernel_rfl) (by kernel_rfl) (by kernel_rfl) (fun _ _ _ h=>(hEp _ _ _ h).elim) (Or.inr ⟨by rfl,rfl⟩) (HSZ.out _ z0.out) ?_
      try simp only [Act.put,zKx]
      refine wpAnyH_take (i:=7) (v:=?_) rfl (by kernel_rfl) (by kernel_rfl) (by kernel_rfl) (fun _ _ _ h=>(hEp _ _ _ h).elim) (Or.inl ⟨by rfl,?_⟩) (HSZ.out _ z0.out) ?_
      rotate_left
      ·intro w hSw;(try dsimp only at hSw);go_simp;try with_reducible rfl
      try simp only [Act.put,zKx]
      refine wpAnyH_take (i:=8) (v:=?_) rfl (by kernel_rfl) (by kernel_rfl) (by kernel_rfl) (fun _ _ _ h=>(hEp _ _ _ h).elim) (Or.inl ⟨by rfl,?_⟩) (HSZ.out _ z0.out) ?_
      rotate_left
      ·intro w hSw;(try dsimp only at hSw);go_simp;try with_reducible rfl
      try simp only [Act.put,zKx]
      refine wpAnyH_take (i:=9) rfl (by kernel_rfl) (by kernel_rfl) (by kernel_rfl) (fun _ _ _ h=>(hEp _ _ _ h).elim) (zXh (by rfl) _ _ rfl _ rfl _ _ _ (fun wz h=>h.2.2.2.1) Tryz.underlying36 rfl (by exact zT5)) (HSZ.out _ z0.out) ?_
      try simp only [Act.put,zKx]
      refine wpAnyH_take (i:=10) (v:=?_) rfl (by kernel_rfl) (by kernel_rfl) (by kernel_rfl) (fun _ _ _ h=>(hEp _ _ _ h).elim) (Or.inl ⟨by rfl,?_⟩) (HSZ.out _ z0.out) ?_
      rotate_left
      ·intro w hSw;(try dsimp only at hSw);go_simp;try with_reducible rfl
      try simp only [Act.put,zKx]
      refine wpAnyH_take (i:=11) (v:=?_) rfl (by kernel_rfl) (by kernel_rfl) (by kernel_rfl) (fun _ _ _ h=>(hEp _ _ _ h).elim) (Or.inl ⟨by rfl,?_⟩) (HSZ.out _ z0.out) ?_
      rotate_left
      ·intro w hSw;(try dsimp only at hSw);go_simp;try with_reducible rfl
      try simp only [Act.put,zKx]
      refine wpAnyH_take (i:=12) (v:=?_) rfl (by kernel_rfl) (by kernel_rfl) (by kernel_rfl) (fun _ _ _ h=>(hEp _ _ _ h).elim) (Or.inl ⟨by rfl,?_⟩) (HSZ.out _ z0.out) ?_
      rotate_left
      ·intro w hSw;(try dsimp only at hSw);go_simp;try with_reducible rfl
      try simp only [Act.put,zKx]
      refine wpAnyH_take (i:=13) (v:=?_) rfl (by kernel_rfl) (by kernel_rfl) (by kernel_rfl) (fun _ _ _ h=>(hEp _ _ _ h).elim) (Or.inl ⟨by rfl,?_⟩) (HSZ.out _ z0.out) ?_
      rotate_left
      ·intro w hSw;(try dsimp only at hSw);go_simp;try with_reducible rfl
      try simp only [Act.put,zKx]
      refine wpAnyH_take (i:=14) rfl (by kernel_rfl) (by kernel_rfl) (by kernel_rfl) (fun _ _ _ h=>(hEp _ _ _ h).elim) (zXh (by rfl) _ _ rfl _ rfl _ _ _ (fun wz h=>h.2.2.2.2) Tryz.underlying36 rfl (by exact zT5)) (HSZ.out _ z0.out) ?_
      try simp only [Act.put,zKx]
      refine wpAnyH_take (i:=16) (v:=?_) rfl (by kernel_rfl) (by kernel_rfl) (by kernel_rfl) (fun _ _ _ h=>(hEp _ _ _ h).elim) (Or.inl ⟨by rfl,?_⟩) (HSZ.out _ z0.out) ?_
      rotate_left
      ·intro w hSw;(try dsimp only at hSw);go_simp;try with_reducible rfl
      try simp only [Act.put,zKx]
      refine wpAnyH_take (i:=17) rfl (by kernel_rfl) (by kernel_rfl) (by kernel_rfl) (fun _ _ _ h=>(hEp _ _ _ h).elim) (zXh (by rfl) _ _ rfl _ rfl _ _ _ (fun wz h=>h.2.2.2.1) Tryz.underlying36 rfl (by exact zT5)) (HSZ.out _ z0.out) ?_
      try simp only [Act.put,zKx]
      refine wpAnyH_ready (rs:= [15]) (by kernel_rfl) (by simp) ?_
      refine AllReadyH.cons rfl (fun K hK=>?_) AllReadyH.nil
      try simp only [zKx]
      rw [if_pos (by rfl)]
      go_wp2_with (go_at_call 56;refine (HX.out _ z0.out).mono ?_;rintro e w8 ⟨rfl,z8⟩)
      have z8:=Lib.hid z8
      refine hK.out _ _ ((HSZ.out _ z8.out)) (fun _=>?_)
      clear hK K
      try simp only [Act.put,zKx]
      refine wpAnyH_ready (rs:= [18]) (by kernel_rfl) (by simp) ?_
      refine AllReadyH.cons rfl (fun K hK=>?_) AllReadyH.nil
      try simp only [zKx]
      rw [if_pos (by rfl)]
      go_wp2_with (go_at_call 56;refine (HB.out _ z8.out).mono ?_;rintro e w9 ⟨rfl,z9⟩)
      have z9:=Lib.hid z9
      refine hK.out _ _ ((HSZ.out _ z9.out)) (fun _=>?_)
      clear hK K
      try simp only [Act.put,zKx]
      refine wpAnyH_take (i:=19) (v:=?_) rfl (by kernel_rfl) (by kernel_rfl) (by kernel_rfl) (fun _ _ _ h=>(hEp _ _ _ h).elim) (Or.inl ⟨by rfl,?_⟩) (HSZ.out _ z9.out) ?_
      rotate_left
      ·intro w hSw;(try dsimp only at hSw);go_simp;try with_reducible rfl
      try simp only [Act.put,zKx]
      refine wpAnyH_take (i:=20) (v:=?_) rfl (by kernel_rfl) (by kernel_rfl) (by kernel_rfl) (fun _ _ _ h=>(hEp _ _ _ h).elim) (Or.inl ⟨by rfl,?_⟩) (HSZ.out _ z9.out) ?_
      rotate_left
      ·intro w hSw;(try dsimp only at hSw);go_simp;try with_reducible rfl
      try simp only [Act.put,zKx]
      refine wpAnyH_take (i:=21) (v:=?_) rfl (by kernel_rfl) (by kernel_rfl) (by kernel_rfl) (fun _ _ _ h=>(hEp _ _ _ h).elim) (Or.inl ⟨by rfl,?_⟩) (HSZ.out _ z9.out) ?_
      rotate_left
      ·intro w hSw;(try dsimp only at hSw);go_simp;try with_reducible rfl
      try simp only [Act.put,zKx]
      refine wpAnyH_done (by kernel_rfl) ?_ _
      have HF:=Lib.hid (HSt.out _ z9.out HT.out)
      gi_wp2
      exact HF.out _
     ·have hk:=hk.resolve_left hk1
      have hk1:(k == -1)=false:=by rw [beq_eq_false_iff_ne];exact hk1
      subst hk
      gi_wp2
      refine zRz (S:=fun wz=>wz.cell? ⟨w.heap.size,0,none⟩=some (.int .i64 k)∧wz.cell? ⟨w.heap.size+3,0,none⟩=some (.map (some (w.heap.size+2)))∧wz.cell? ⟨X,0,none⟩=some (.int .i64 k)∧zAI wz (w.heap.size+4) 36 #[.int .i64 b0, .int .i64 b1, .int .i64 b2]∧zAI wz X 36 #[.int .i64 k, .int .i64 x1, .int .i64 x2]) (by kernel_rfl) (by kernel_rfl) (fun ⟨_,_,h⟩=>hEo ⟨_,_,h⟩) (HSZ.out _ z0.out) (fun hHeld=>?_)
      clear hHeld
      refine wpAnyH_take (i:=0) (v:=?_) rfl (by kernel_rfl) (by kernel_rfl) (by kernel_rfl) (fun _ _ _ h=>(hEp _ _ _ h).elim) (Or.inl ⟨by rfl,?_⟩) (HSZ.out _ z0.out) ?_
      rotate_left
      ·intro w hSw;(try dsimp only at hSw);go_simp;try with_reducible rfl
      try simp only [Act.put,zKx]
      refine wpAnyH_take (i:=1) (v:=?_) rfl (by kernel_rfl) (by kernel_rfl) (by kernel_rfl) (fun _ _ _ h=>(hEp _ _ _ h).elim) (Or.inl ⟨by rfl,?_⟩) (HSZ.out _ z0.out) ?_
      rotate_left
      ·intro w hSw;(try dsimp only at hSw);go_simp;try with_reducible rfl
      try simp only [Act.put,zKx]
      refine wpAnyH_take (i:=2) (v:=?_) rfl (by kernel_rfl) (by kernel_rfl) (by kernel_rfl) (fun _ _ _ h=>(hEp _ _ _ h).elim) (Or.inl ⟨by rfl,?_⟩) (HSZ.out _ z0.out) ?_
      rotate_left
      ·intro w hSw;(try dsimp only at hSw);go_simp;try with_reducible rfl
      try simp only [Act.put,zKx]
      refine wpAnyH_take (i:=3) (v:=?_) rfl (by kernel_rfl) (by kernel_rfl) (by kernel_rfl) (fun _ _ _ h=>(hEp _ _ _ h).elim) (Or.inl ⟨by rfl,?_⟩) (HSZ.out _ z0.out) ?_
      rotate_left
      ·intro w hSw;(try dsimp only at hSw);go_simp;try with_reducible rfl
      try simp only [Act.put,zKx]
      refine wpAnyH_take (i:=4) (v:=?_) rfl (by kernel_rfl) (by kernel_rfl) (by kernel_rfl) (fun _ _ _ h=>(hEp _ _ _ h).elim) (Or.inl ⟨by rfl,?_⟩) (HSZ.out _ z0.out) ?_
      rotate_left
      ·intro w hSw;(try dsimp only at hSw);go_simp;try with_reducible rfl
      try simp only [Act.put,zKx]
      refine wpAnyH_take (i:=5) (v:=?_) rfl (by kernel_rfl) (by kernel_rfl) (by kernel_rfl) (fun _ _ _ h=>(hEp _ _ _ h).elim) (Or.inl ⟨by rfl,?_⟩) (HSZ.out _ z0.out) ?_
      rotate_left
      ·intro w hSw;(try dsimp only at hSw);go_simp;try with_reducible rfl
      try simp only [Act.put,zKx]
      refine wpAnyH_take (i:=6) (v:=?_) rfl (by kernel_rfl) (by kernel_rfl) (by kernel_rfl) (fun _ _ _ h=>(hEp _ _ _ h).elim) (Or.inl ⟨by rfl,?_⟩) (HSZ.out _ z0.out) ?_
      rotate_left
      ·intro w hSw;(try dsimp only at hSw);go_simp;try with_reducible rfl
      try simp only [Act.put,zKx]
      refine wpAnyH_take (i:=7) (v:=?_) rfl (by kernel_rfl) (by kernel_rfl) (by kernel_rfl) (fun _ _ _ h=>(hEp _ _ _ h).elim) (Or.inl ⟨by rfl,?_⟩) (HSZ.out _ z0.out) ?_
      rotate_left
      ·intro w hSw;(try dsimp only at hSw);go_simp;try with_reducible rfl
      try simp only [Act.put,zKx]
      refine wpAnyH_take (i:=8) (v:=?_) rfl (by kernel_rfl) (by kernel_rfl) (by kernel_rfl) (fun _ _ _ h=>(hEp _ _ _ h).elim) (Or.inl ⟨by rfl,?_⟩) (HSZ.out _ z0.out) ?_
      rotate_left
      ·intro w hSw;(try dsimp only at hSw);go_simp;try with_reducible rfl
      try simp only [Act.put,zKx]
      refine wpAnyH_take (i:=9) rfl (by kernel_rfl) (by kernel_rfl) (by kernel_rfl) (fun _ _ _ h=>(hEp _ _ _ h).elim) (zXh (by rfl) _ _ rfl _ rfl _ _ _ (fun wz h=>h.2.2.2.1) Tryz.underlying36 rfl (by exact zT5)) (HSZ.out _ z0.out) ?_
      try simp only [Act.put,zKx]
      refine wpAnyH_take (i:=10) (v:=?_) rfl (by kernel_rfl) (by kernel_rfl) (by kernel_rfl) (fun _ _ _ h=>(hEp _ _ _ h).elim) (Or.inl ⟨by rfl,?_⟩) (HSZ.out _ z0.out) ?_
      rotate_left
      ·intro w hSw;(try dsimp only at hSw);go_simp;try with_reducible rfl
      try simp only [Act.put,zKx]
      refine wpAnyH_take (i:=11) (v:=?_) rfl (by kernel_rfl) (by kernel_rfl) (by kernel_rfl) (fun _ _ _ h=>(hEp _ _ _ h).elim) (Or.inl ⟨by rfl,?_⟩) (HSZ.out _ z0.out) ?_
      rotate_left
      ·intro w hSw;(try dsimp only at hSw);go_simp;try with_reducible rfl
      try simp only [Act.put,zKx]
      refine wpAnyH_take (i:=12) (v:=?_) rfl (by kernel_rfl) (by kernel_rfl) (by kernel_rfl) (fun _ _ _ h=>(hEp _ _ _ h).elim) (Or.inl ⟨by rfl,?_⟩) (HSZ.out _ z0.out) ?_
      rotate_left
      ·intro w hSw;(try dsimp only at hSw);go_simp;try with_reducible rfl
      try simp only [Act.put,zKx]
      refine wpAnyH_take (i:=13) (v:=?_) rfl (by kernel_rfl) (by kernel_rfl) (by kernel_rfl) (fun _ _ _ h=>(hEp _ _ _ h).elim) (Or.inl ⟨by rfl,?_⟩) (HSZ.out _ z0.out) ?_
      rotate_left
      ·intro w hSw;(try dsimp only at hSw);go_simp;try with_reducible rfl
      try simp only [Act.put,zKx]
      refine wpAnyH_take (i:=14) rfl (by kernel_rfl) (by kernel_rfl) (by kernel_rfl) (fun _ _ _ h=>(hEp _ _ _ h).elim) (zXh (by rfl) _ _ rfl _ rfl _ _ _ (fun wz h=>h.2.2.2.2) Tryz.underlying36 rfl (by exact zT5)) (HSZ.out _ z0.out) ?_
      try simp only [Act.put,zKx]
      refine wpAnyH_take (i:=16) (v:=?_) rfl (by kernel_rfl) (by kernel_rfl) (by kernel_rfl) (fun _ _ _ h=>(hEp _ _ _ h).elim) (Or.inl ⟨by rfl,?_⟩) (HSZ.out _ z0.out) ?_
      rotate_left
      ·intro w hSw;(try dsimp only at hSw);go_simp;try with_reducible rfl
      try simp only [Act.put,zKx]
      refine wpAnyH_take (i:=17) rfl (by kernel_rfl) (by kernel_rfl) (by kernel_rfl) (fun _ _ _ h=>(hEp _ _ _ h).elim) (zXh (by rfl) _ _ rfl _ rfl _ _ _ (fun wz h=>h.2.2.2.1) Tryz.underlying36 rfl (by exact zT5)) (HSZ.out _ z0.out) ?_
      try simp only [Act.put,zKx]
      refine wpAnyH_ready (rs:= [15]) (by kernel_rfl) (by simp) ?_
      refine AllReadyH.cons rfl (fun K hK=>?_) AllReadyH.nil
      try simp only [zKx]
      rw [if_pos (by rfl)]
      go_wp2_with (go_at_call 56;refine (HX.out _ z0.out).mono ?_;rintro e w8 ⟨rfl,z8⟩)
      have z8:=Lib.hid z8
      refine hK.out _ _ ((HSZ.out _ z8.out)) (fun _=>?_)
      clear hK K
      try simp only [Act.put,zKx]
      refine wpAnyH_ready (rs:= [18]) (by kernel_rfl) (by simp) ?_
      refine AllReadyH.cons rfl (fun K hK=>?_) AllReadyH.nil
      try simp only [zKx]
      rw [if_pos (by rfl)]
      go_wp2_with (go_at_call 56;refine (HB.out _ z8.out).mono ?_;rintro e w9 ⟨rfl,z9⟩)
      have z9:=Lib.hid z9
      refine hK.out _ _ ((HSZ.out _ z9.out)) (fun _=>?_)
      clear hK K
      try simp only [Act.put,zKx]
      refine wpAnyH_take (i:=19) (v:=?_) rfl (by kernel_rfl) (by kernel_rfl) (by kernel_rfl) (fun _ _ _ h=>(hEp _ _ _ h).elim) (Or.inl ⟨by rfl,?_⟩) (HSZ.out _ z9.out) ?_
      rotate_left
      ·intro w hSw;(try dsimp only at hSw);go_simp;try with_reducible rfl
      try simp only [Act.put,zKx]
      refine wpAnyH_take (i:=20) (v:=?_) rfl (by kernel_rfl) (by kernel_rfl) (by kernel_rfl) (fun _ _ _ h=>(hEp _ _ _ h).elim) (Or.inl ⟨by rfl,?_⟩) (HSZ.out _ z9.out) ?_
      rotate_left
      ·intro w hSw;(try dsimp only at hSw);go_simp;try with_reducible rfl
      try simp only [Act.put,zKx]
      refine wpAnyH_take (i:=21) (v:=?_) rfl (by kernel_rfl) (by kernel_rfl) (by kernel_rfl) (fun _ _ _ h=>(hEp _ _ _ h).elim) (Or.inl ⟨by rfl,?_⟩) (HSZ.out _ z9.out) ?_
      rotate_left
      ·intro w hSw;(try dsimp only at hSw);go_simp;try with_reducible rfl
      try simp only [Act.put,zKx]
      refine wpAnyH_done (by kernel_rfl) ?_ _
      have HF:=Lib.hid (HSt.out _ z9.out HT.out)
      gi_wp2
      exact HF.out _
 case hdone=>
  rintro W hsz hW hD
  have HW:=Lib.hid hW
  rw [←HC.out] at HW
  clear hW HC
  obtain ⟨b0,b1,b2⟩:=c
  have z0:=HW.out.best.cell (i:=0) (v:= .int .i64 b0) rfl
  have z1:=HW.out.best.cell (i:=1) (v:= .int .i64 b1) rfl
  have z2:=HW.out.best.cell (i:=2) (v:= .int .i64 b2) rfl
  have y0:=HW.out.res.cell (i:=0) (v:= .int .i64 0) rfl
  have y1:=HW.out.res.cell (i:=1) (v:= .int .i64 0) rfl
  have y2:=HW.out.res.cell (i:=2) (v:= .int .i64 0) rfl
  have g0:=HW.out.res.frozen 0
  have g1:=HW.out.res.frozen 1
  have g2:=HW.out.res.frozen 2
  have heq:=fun W=>zGn b0 b1 b2 0 0 0 W
  unfold zOq at heq
  have R3:=Lib.hid (((HW.out.res.set 0 (.int .i64 b0)).set 1 (.int .i64 b1)).set 2 (.int .i64 b2))
  have HD3:Hid (((((W.setCell ⟨w.heap.size+1,0,none⟩ (.int .i64 b0)).setCell ⟨w.heap.size+1,1,none⟩ (.int .i64 b1)).setCell ⟨w.heap.size+1,2,none⟩ (.int .i64 b2))).heap[w.heap.size+7]? =some (.deferred (some []))):=Lib.hid (by
   rw [hs7] at hD
   rw [heap_setCell_other _ _ _ _ (by simp),heap_setCell_other _ _ _ _ (by simp),heap_setCell_other _ _ _ _ (by simp)];exact hD)
  have HB3:Hid (Below w.heap.size w ((((W.setCell ⟨w.heap.size+1,0,none⟩ (.int .i64 b0)).setCell ⟨w.heap.size+1,1,none⟩ (.int .i64 b1)).setCell ⟨w.heap.size+1,2,none⟩ (.int .i64 b2)))):=Lib.hid
   (zCn (zCn (zCn HW.out.below (by omega) 0 _) (by omega) 1 _) (by omega) 2 _)
  clear hD
  by_cases hz:(b0 == 0 && b1 == 0 && b2 == 0)=true
  ·rw [hz] at heq
   gi_wp2
   refine ⟨by simp, .inl ⟨_,_,rfl,run_takeDeferred (by rw [hs7];exact HD3.out),?_⟩⟩
   refine ⟨_,zR9 rfl _ _ _ _ _ _ rfl (by unfold zAI;rw [World.putObj_heap_other (by omega)];exact R3.out) Tryz.underlying36 rfl (by exact zT5),?_,HB3.out.trans (zCm _ _ (by omega))⟩
   have he:er=11:=by
    rw [HE.out,if_pos]
    simp only [Bool.and_eq_true,beq_iff_eq] at hz
    obtain ⟨⟨rfl,rfl⟩,rfl⟩:=hz
    rfl
   rw [he];rfl
  ·rw [Bool.not_eq_true] at hz
   rw [hz] at heq
   gi_wp2
   refine ⟨by simp, .inl ⟨_,_,rfl,run_takeDeferred (by rw [hs7];exact HD3.out),?_⟩⟩
   refine ⟨_,zR9 rfl _ _ _ _ _ _ rfl (by unfold zAI;rw [World.putObj_heap_other (by omega)];exact R3.out) Tryz.underlying36 rfl (by exact zT5),?_,HB3.out.trans (zCm _ _ (by omega))⟩
   have he:er=0:=by
    rw [HE.out,if_neg]
    intro h
    injection h with h1 h2
    injection h2 with h2 h3
    subst h1 h2 h3
    simp at hz
   rw [he];rfl
 case hstop=>exact fun c pre W _ _ h _=>h.elim
end Go.Proofs.YtmalmijdjhkklaaGreat