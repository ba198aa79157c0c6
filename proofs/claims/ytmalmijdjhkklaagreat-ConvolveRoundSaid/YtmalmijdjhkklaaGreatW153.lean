/- cache.New; cache.Choose of a nil field over an empty cache. -/
import Derived.Test.YtmalmijdjhkklaaGreatW147
import Derived.Test.YtmalmijdjhkklaaGreatMinMax
import Derived.Test.YtmalmijdjhkklaaGreatW128
set_option linter.unusedVariables false
set_option linter.unusedSimpArgs false
set_option maxRecDepth 100000
set_option maxHeartbeats 16000000
namespace Go.Proofs.YtmalmijdjhkklaaGreat
open Go.RowKit
section
theorem zXP (x room:Int) (w:World) (hr:room=mnI (mxI x 0) 64):
  Calls Tryz.prog 41 #[.int .i64 x] w fun e w'=>e= .returned (.pointer (some ⟨w.heap.size+1,0,none⟩))∧zXA w' w.heap.size (w.heap.size+1) w.heap.size (.slice none 0 0) [] room∧Below w.heap.size w w':=by
 have hmk: ∀W,(Instr.makeMap 118 none).run Tryz.prog W= .ok (.map (some W.heap.size)) (W.alloc (.map #[] 0)):=fun W=>by simp [Instr.makeMap,Result.andThen]
 have h0:0≤room∧room≤64:=by rw [hr];unfold mnI mxI;split <;> split <;> omega
 have H0:=zy h0
 have hr':mnI (mxI x 0) 64=room:=hr.symm
 have hB:Below w.heap.size w ((w.alloc (.map #[] 0)).alloc (.cells #[.int .i64 room, .slice none 0 0, .map (some w.heap.size), .int .i64 0, .int .i64 0] 121)):=((Below.refl _ w).alloc (Nat.le_refl _) _).alloc (by simp) _
 have hC:zXA ((w.alloc (.map #[] 0)).alloc (.cells #[.int .i64 room, .slice none 0 0, .map (some w.heap.size), .int .i64 0, .int .i64 0] 121)) w.heap.size (w.heap.size+1) w.heap.size (.slice none 0 0) [] room:=
  ⟨⟨0,0,by have h:=zAI.new (w.alloc (.map #[] 0)) 121 #[.int .i64 room, .slice none 0 0, .map (some w.heap.size), .int .i64 0, .int .i64 0];rw [World.size_alloc] at h;exact h⟩,World.ownsRow_nil _ _ _ _,(zT7 w []).below ((Below.refl _ _).alloc (Nat.le_refl _) _),by simpa using h0.1,h0.1,h0.2,by omega,Nat.le_refl _⟩
 have HB:=zy hB
 have HC:=zy hC
 clear h0 hr hB hC
 go_enter Tryz.func41,Tryz.ntmps41
 go_wp2
 go_ret
 exact ⟨by first|rfl|simp,HC.out,HB.out⟩
theorem zXO {w:World} {B bc bm:Nat} {V0:Value} {ord:List PlT} {room:Int} (hC:zXA w B bc bm V0 ord room) (hBw:B≤w.heap.size) (n k:Int) (n0: -9223372036854775808≤n) (n1:n≤9223372036854775807)
  (hL: ∀wz:World,wz.heap[bm]? =w.heap[bm]? →(Instr.lookup 118 (.map (some bm)) (keyV 0 n k) true).run Tryz.prog wz= .ok (.tuple #[.agg (zD7 (0,0,0)), .bool false]) wz):
  Calls Tryz.prog 82 #[.pointer (some ⟨bc,0,none⟩), .pointer none, .int .i64 n, .int .i64 k] w fun e w'=>e= .returned (.tuple #[.agg (zD7 (0,0,0)), .int .i64 2])∧zXA w' B bc bm V0 ord room∧zX7 (CF bc bm V0) w w':=by
 have R1:=zy (lay1 w 36 #[.int .i64 0, .int .i64 0, .int .i64 0])
 have HP:=zy (fun W=>zG7 W)
 have R2:=zy (lay2 w 36 75 #[.int .i64 0, .int .i64 0, .int .i64 0] #[.int .u64 0, .int .i64 0, .int .i64 0])
 have R3:=zy (R2.out.2.1.setRow #[.int .u64 0, .int .i64 n, .int .i64 k])
 have hB2:=below_setRow R2.out.2.2 (show w.heap.size≤w.heap.size+1 by omega) #[.int .u64 0, .int .i64 n, .int .i64 k]
 have Z:Hid (zXA (((w.alloc (.cells #[.int .i64 0, .int .i64 0, .int .i64 0] 36)).alloc (.cells #[.int .u64 0, .int .i64 0, .int .i64 0] 75)).setRow (w.heap.size+1) #[.int .u64 0, .int .i64 n, .int .i64 k]) B bc bm V0 ord room∧zX7 (CF bc bm V0) w (((w.alloc (.cells #[.int .i64 0, .int .i64 0, .int .i64 0] 36)).alloc (.cells #[.int .u64 0, .int .i64 0, .int .i64 0] 75)).setRow (w.heap.size+1) #[.int .u64 0, .int .i64 n, .int .i64 k])∧zAI (((w.alloc (.cells #[.int .i64 0, .int .i64 0, .int .i64 0] 36)).alloc (.cells #[.int .u64 0, .int .i64 0, .int .i64 0] 75)).setRow (w.heap.size+1) #[.int .u64 0, .int .i64 n, .int .i64 k]) w.heap.size 36 #[.int .i64 0, .int .i64 0, .int .i64 0]∧zAI (((w.alloc (.cells #[.int .i64 0, .int .i64 0, .int .i64 0] 36)).alloc (.cells #[.int .u64 0, .int .i64 0, .int .i64 0] 75)).setRow (w.heap.size+1) #[.int .u64 0, .int .i64 n, .int .i64 k]) (w.heap.size+1) 75 #[.int .u64 0, .int .i64 n, .int .i64 k]∧w.heap.size+2≤(((w.alloc (.cells #[.int .i64 0, .int .i64 0, .int .i64 0] 36)).alloc (.cells #[.int .u64 0, .int .i64 0, .int .i64 0] 75)).setRow (w.heap.size+1) #[.int .u64 0, .int .i64 n, .int .i64 k]).heap.size):=zy ⟨hC.keep hB2,zX7.of_below hB2,R2.out.1.setRowOther _ _ (by omega),R3.out,by simp⟩
 have KB:Hid (∀W W' V o,(zXA W B bc bm V o room∧zX7 (CF bc bm V0) w W∧zAI W w.heap.size 36 #[.int .i64 0, .int .i64 0, .int .i64 0]∧zAI W (w.heap.size+1) 75 #[.int .u64 0, .int .i64 n, .int .i64 k]∧w.heap.size+2≤W.heap.size)→Below W.heap.size W W'→(zXA W' B bc bm V o room∧zX7 (CF bc bm V0) w W'∧zAI W' w.heap.size 36 #[.int .i64 0, .int .i64 0, .int .i64 0]∧zAI W' (w.heap.size+1) 75 #[.int .u64 0, .int .i64 n, .int .i64 k]∧w.heap.size+2≤W'.heap.size)):=zy (fun W W' V o h hY=>⟨h.1.keep hY,h.2.1.trans (zX7.of_below (S:=fun _=>False) hY) (fun _ _ h=>h.elim),h.2.2.1.keep hY,h.2.2.2.1.keep hY,Nat.le_trans h.2.2.2.2 hY.size⟩)
 have hcf:=hC.cf
 have HG:Hid (∀W,zXA W B bc bm V0 ord room→W.heap[bm]? =w.heap[bm]? →Calls Tryz.prog 139 #[.pointer (some ⟨bc,0,none⟩), .agg #[.int .u64 0, .int .i64 n, .int .i64 k]] W fun e w'=>zXA w' B bc bm V0 ord room∧zX7 (CF bc bm V0) W w'∧w'.heap[bm]? =W.heap[bm]? ∧e= .returned (.tuple #[.agg (zD7 (0,0,0)), .bool false])):=zy (fun W hW hm=>
  zXD hW 0 n k (fun wz hz=>hL wz (hz.trans hm)))
 have hm0:=hB2.block bm hC.book.lt
 have HG':=zy (HG.out _ Z.out.1 hm0)
 have HM0:=zy hm0
 have HCF:=zy hcf
 have hCF:Hid (bc<w.heap.size∧bm<w.heap.size):=zy ⟨(hcf bc (.inl rfl)).2,(hcf bm (.inr (.inl rfl))).2⟩
 clear hL HG hB2 hcf hC R1 hm0
 go_enter Tryz.func82,Tryz.ntmps82
 go_wp2_with fail
 refine (HP.out _).mono ?_
 rintro e w1 ⟨rfl,rfl⟩
 go_wp2_with (first|(refine wpList_store_row rfl _ _ _ rfl _ _ rfl rfl _ _ (R2.out.2.1) (by exact zT4) rfl (zJR _ _ _) ?_)|(refine wpList_load_row rfl _ _ rfl _ rfl _ _ _ _ (R3.out) Tryz.underlying75 rfl (by exact zT4) ?_))
 refine HG'.out.mono ?_
 rintro e w2 ⟨hC2,hK2,hM2,rfl⟩
 have Y:Hid (zXA w2 B bc bm V0 ord room∧zX7 (CF bc bm V0) w w2∧zAI w2 w.heap.size 36 #[.int .i64 0, .int .i64 0, .int .i64 0]∧zAI w2 (w.heap.size+1) 75 #[.int .u64 0, .int .i64 n, .int .i64 k]∧w.heap.size+2≤w2.heap.size):=zy ⟨hC2,Z.out.2.1.trans hK2 (fun _ _ h=>h),hK2.row Z.out.2.2.1 (fun h=>by have:=(HCF.out _ h).2;omega),hK2.row Z.out.2.2.2.1 (fun h=>by have:=(HCF.out _ h).2;omega),Nat.le_trans Z.out.2.2.2.2 hK2.size⟩
 have HM2:=zy (hM2.trans HM0.out)
 clear hC2 hK2 hM2 Z HG' R2 R3 HP HM0
 simp only [zD7]
 have L2:=zy (lay1 w2 36 #[.int .i64 0, .int .i64 0, .int .i64 0])
 have hB3:=below_setRow L2.out.2 (Nat.le_refl _) #[.int .i64 0, .int .i64 0, .int .i64 0]
 have Y3:=zy (KB.out _ _ _ _ Y.out hB3)
 have HM3:=zy ((hB3.block bm (Nat.lt_of_lt_of_le hCF.out.2 Y.out.2.1.size)).trans HM2.out)
 clear hB3 Y HM2
 go_wp2_with (first|(refine wpList_store_row rfl _ _ _ rfl _ _ rfl rfl _ _ (L2.out.1) (by exact zT5) rfl (zOs _ _ _) ?_))
 refine (zEu n k _).mono ?_
 rintro e w4 ⟨rfl,hB4⟩
 have Y4:=zy (KB.out _ _ _ _ Y3.out hB4)
 have HM4:=zy ((hB4.block bm (Nat.lt_of_lt_of_le hCF.out.2 Y3.out.2.1.size)).trans HM3.out)
 clear hB4 Y3 HM3 L2
 simp only [zD7]
 have L4:=zy (lay1 w4 36 #[.int .i64 0, .int .i64 0, .int .i64 0])
 have hB5:=below_setRow L4.out.2 (Nat.le_refl _) #[.int .i64 0, .int .i64 0, .int .i64 0]
 have Y5:=zy (KB.out _ _ _ _ Y4.out hB5)
 have P5:=zy (L4.out.1.setRow #[.int .i64 0, .int .i64 0, .int .i64 0])
 have HM5:=zy ((hB5.block bm (Nat.lt_of_lt_of_le hCF.out.2 Y4.out.2.1.size)).trans HM4.out)
 have h4:=Y4.out.2.2.2.2
 clear hB5 Y4 HM4
 have t0:((2:Int) == 0)=false:=by decide
 have A7:=zy (Y5.out.2.2.1.setRow #[.int .i64 0, .int .i64 0, .int .i64 0])
 go_wp2_with (first|(refine wpList_store_row rfl _ _ _ rfl _ _ rfl rfl _ _ (L4.out.1) (by exact zT5) rfl (zOs _ _ _) ?_)|(refine wpList_load_row rfl _ _ rfl _ rfl _ _ _ _ (P5.out) Tryz.underlying36 rfl (by exact zT5) ?_)|(refine wpList_store_row rfl _ _ _ rfl _ _ rfl rfl _ _ (Y5.out.2.2.1) (by exact zT5) rfl (zOs _ _ _) ?_))
 refine bodyPost_ret (zR9 rfl _ _ _ _ _ _ rfl A7.out Tryz.underlying36 rfl (by exact zT5)) (by rfl) ?_
 obtain ⟨h',m',hr'⟩:=Y5.out.1.row
 have hbc:=hCF.out
 refine ⟨rfl,Y5.out.1.upd ⟨h',m',hr'.setRowOther _ _ (by omega)⟩ (fun k hk=>setRow_other _ _ _ _ (hk.elim (fun h=>by omega) (fun h=>by have:=(HCF.out k (.inr (.inr h))).2;omega))),⟨Y5.out.2.1.os,Y5.out.2.1.tape,Y5.out.2.1.output,Nat.le_trans Y5.out.2.1.size (by simp),fun k hk hn=>(setRow_other _ _ _ _ (by omega)).trans (Y5.out.2.1.block k hk hn)⟩⟩
end

section
open Alg
theorem zXT {p:Nat} {w:World} {v:Value} {g:Int} (B:Nat) (hBw:B≤w.heap.size) (h:Fd w B v p g) (AA AB:Option Addr) (cA cB:Nat) (L M:List Int) (k:Int) (hl:L.length≤140737488351232) (hm:M.length≤140737488351232)
  (hU:U64s L) (hU':U64s M) (hA:RdI w B .u64 AA L) (hB:RdI w B .u64 AB M) (hf:rndf p k L M≠0) (cv:Value) (Q:World→Prop) (hQ: ∀W W',Q W→Below W.heap.size W W'→Q W') (hC:Chs cv v p L.length k B Q) (hq:Q w):
  Calls Tryz.prog 37 #[v,cv, .slice AA L.length cA, .slice AB M.length cB, .int .i64 k] w fun r w'=>r= .returned (.tuple #[.slice none 0 0, .int .i64 (rndf p k L M)])∧Below B w w'∧Q w':=by
 have HGd:Hid (∀W,Below B w W→Calls Tryz.prog 78 #[v, .slice AA L.length cA, .slice AB M.length cB] W fun e w'=>e= .returned (.bool (zI1 p L && zI1 p M))∧W=w'):=zy (fun W hW=>
  zDH ((h.below hW).mono (Nat.le_trans hBw hW.size)) AA AB cA cB L M hl hm hU hU' (RdI.mono (hA.below hW) (Nat.le_trans hBw hW.size)) (RdI.mono (hB.below hW) (Nat.le_trans hBw hW.size)))
 obtain ⟨fb,rfl⟩: ∃fb,v= .pointer (some ⟨fb,0,none⟩):=by
  obtain ⟨b,c,t,o,s,sv,hv,_⟩:=h
  exact ⟨b,hv⟩
 have HCh:=zy (hC w hq)
 obtain ⟨gd,hgd⟩: ∃gd,gd=(zI1 p L && zI1 p M):=⟨_,rfl⟩
 have hd:Hid (rndf p k L M=if L.length≠M.length then 1 else if chE p L.length k≠0 then chE p L.length k else if gd=false then 9 else 0):=zy (by rw [hgd];rfl)
 rw [←hgd] at HGd
 obtain ⟨z,hz⟩: ∃z,z=rndf p k L M:=⟨_,rfl⟩
 rw [←hz] at hd hf ⊢
 obtain ⟨er,he⟩: ∃er,er=chE p L.length k:=⟨_,rfl⟩
 rw [←he] at hd HCh
 obtain ⟨⟨x0,x1,x2⟩,hx⟩: ∃x,x=chP p L.length k:=⟨_,rfl⟩
 rw [←hx] at HCh
 obtain ⟨a,ha⟩: ∃a,a=L.length:=⟨_,rfl⟩
 obtain ⟨b,hb⟩: ∃b,b=M.length:=⟨_,rfl⟩
 rw [←ha] at hd HGd HCh hl ⊢
 rw [←hb] at hd HGd hm ⊢
 have HQ:=zy hQ
 have Hq:=zy hq
 clear h hA hB hU hU' hgd hz ha hb he hx hC hq hQ
 by_cases hab:a=b
 case neg=>
  have hz1:Hid (z=1):=zy (by rw [hd.out,if_pos hab])
  have t1:((a:Int) != (b:Int))=true:=by simp;omega
  have t1b:(a != b)=true:=by simpa using hab
  clear hd HGd HCh hab hf
  go_enter Tryz.func37,Tryz.ntmps37
  go_wp2
  go_ret2
  exact ⟨by rw [hz1.out];rfl,Below.refl _ _,Hq.out⟩
 have t1:((a:Int) != (b:Int))=false:=by simp;omega
 have hd1:=hd.out
 rw [if_neg (by omega)] at hd1
 clear hd
 by_cases h0:er=0
 case neg=>
  have hz1:Hid (z=er):=zy (by rw [hd1,if_pos h0])
  have t2:(er != 0)=true:=by simp [h0]
  clear hd1 HGd hab h0 hf
  go_enter Tryz.func37,Tryz.ntmps37
  go_wp2_with fail
  refine HCh.out.mono ?_
  rintro e w1 ⟨rfl,hB1,hq1⟩
  simp only [zD7]
  have L1:=zy (lay1 w1 36 #[.int .i64 0, .int .i64 0, .int .i64 0])
  have hBs:=below_setRow L1.out.2 (Nat.le_refl _) #[.int .i64 x0, .int .i64 x1, .int .i64 x2]
  have HBs:=zy (hB1.trans (hBs.mono (Nat.le_trans hBw hB1.size)))
  have Hq1:=zy (HQ.out _ _ hq1 hBs)
  clear hBs hB1 hq1 HCh
  go_wp2_with (refine wpList_store_row rfl _ _ _ rfl _ _ rfl rfl _ _ (L1.out.1) (by exact zT5) rfl (zOs _ _ _) ?_)
  go_ret2
  exact ⟨by rw [hz1.out];rfl,HBs.out,Hq1.out⟩
 rw [if_neg (by simp [h0])] at hd1
 subst h0
 have hgf:gd=false:=by
  cases gd
  ·rfl
  ·exact absurd hd1 hf
 have hz1:Hid (z=9):=zy (by rw [hd1,if_pos hgf])
 subst hgf
 clear hd1 hab hf
 go_enter Tryz.func37,Tryz.ntmps37
 go_wp2_with fail
 refine HCh.out.mono ?_
 rintro e w1 ⟨rfl,hB1,hq1⟩
 simp only [zD7]
 have L1:=zy (lay1 w1 36 #[.int .i64 0, .int .i64 0, .int .i64 0])
 have hBs:=below_setRow L1.out.2 (Nat.le_refl _) #[.int .i64 x0, .int .i64 x1, .int .i64 x2]
 have HBs:=zy (hB1.trans (hBs.mono (Nat.le_trans hBw hB1.size)))
 have Hq1:=zy (HQ.out _ _ hq1 hBs)
 clear hBs hB1 hq1 HCh
 go_wp2_with (refine wpList_store_row rfl _ _ _ rfl _ _ rfl rfl _ _ (L1.out.1) (by exact zT5) rfl (zOs _ _ _) ?_)
 refine (HGd.out _ HBs.out).mono ?_
 rintro e w2 ⟨rfl,rfl⟩
 go_wp2
 go_ret2
 exact ⟨by rw [hz1.out];rfl,HBs.out,Hq1.out⟩
theorem zXS {w:World} {B bc bm:Nat} {V:Value} {room:Int} (hC:zXA w B bc bm V [] room) (hBw:B≤w.heap.size) (AA AB:Option Addr) (cA cB a b:Nat) (ha:a≤140737488351232) (hb:b≤140737488351232) (k:Int):
  Calls Tryz.prog 37 #[.pointer none, .pointer (some ⟨bc,0,none⟩), .slice AA a cA, .slice AB b cB, .int .i64 k] w fun r w'=>r= .returned (.tuple #[.slice none 0 0, .int .i64 2])∧Below B w w'∧zXA w' B bc bm V [] room:=by
 have hL:=(zXB hC.book 0 (a:Int) k).resolve_right (fun h=>by simpa using h.2.2)
 have HCh:=zy (zXO hC hBw (a:Int) k (by omega) (by omega) hL)
 have hcf:=zy hC.cf
 clear hL hC
 go_enter Tryz.func37,Tryz.ntmps37
 go_wp2_with fail
 refine HCh.out.mono ?_
 rintro e w1 ⟨rfl,hC1,hK1⟩
 simp only [zD7]
 have L1:=zy (lay1 w1 36 #[.int .i64 0, .int .i64 0, .int .i64 0])
 have hBs:=below_setRow L1.out.2 (Nat.le_refl _) #[.int .i64 0, .int .i64 0, .int .i64 0]
 have hB1:=hK1.below hBw (fun k hk=>(hcf.out k hk).1)
 have HBs:=zy (hB1.trans (hBs.mono (Nat.le_trans hBw hB1.size)))
 have HC1:=zy (hC1.keep hBs)
 clear hBs hB1 hC1 hK1 HCh hcf
 go_wp2_with (refine wpList_store_row rfl _ _ _ rfl _ _ rfl rfl _ _ (L1.out.1) (by exact zT5) rfl (zOs _ _ _) ?_)
 go_ret2
 exact ⟨rfl,HBs.out,HC1.out⟩
theorem zXQ {q:Option Addr} {p g room:Int} (bc bm:Nat) (n:Nat) (k:Int) (hn:n≤140737488351232) (B:Nat):
  Chs (.pointer (some ⟨bc,0,none⟩)) (.pointer q) p n k B (fun W=>(∃V ord,zXA W B bc bm V ord room)∧Fd W B (.pointer q) p g∧B≤W.heap.size):=fun W ⟨⟨V,ord,hC⟩,hF,hB⟩=>
 (zXM hC hB hF (n:Int) k (by omega) (by omega)).mono fun e w' ⟨he,V',ord',hC',hK,_⟩=>by
  have hb:=hK.below hB (fun k hk=>(hC.cf k hk).1)
  exact ⟨he,hb,⟨V',ord',hC'⟩,hF.below hb,Nat.le_trans hB hb.size⟩
theorem zXR {q:Option Addr} {p g room:Int} {bc bm B:Nat} (W W':World) (h:(∃V ord,zXA W B bc bm V ord room)∧Fd W B (.pointer q) p g∧B≤W.heap.size) (hb:Below W.heap.size W W'):
  (∃V ord,zXA W' B bc bm V ord room)∧Fd W' B (.pointer q) p g∧B≤W'.heap.size:=by
 obtain ⟨⟨V,ord,hC⟩,hF,hB⟩:=h
 exact ⟨⟨V,ord,hC.keep hb⟩,hF.below (hb.mono hB),Nat.le_trans hB hb.size⟩
def zXU (q:Option Addr) (p g room:Int) (bc bm b B:Nat) (o:Option Obj) (W:World):Prop:=
 (∃V ord,zXA W B bc bm V ord room∧V.ownBlock≠some b)∧Fd W B (.pointer q) p g∧B≤W.heap.size∧W.heap[b]? =o∧b<W.heap.size
theorem zXW {q:Option Addr} {p g room:Int} (bc bm b:Nat) (n:Nat) (k:Int) (hn:n≤140737488351232) (B:Nat) (o:Option Obj) (h1:b≠bc) (h2:b≠bm):
  Chs (.pointer (some ⟨bc,0,none⟩)) (.pointer q) p n k B (zXU q p g room bc bm b B o):=fun W ⟨⟨V,ord,hC,hV⟩,hF,hB,ho,hb⟩=>
 (zXM hC hB hF (n:Int) k (by omega) (by omega)).mono fun e w' ⟨he,V',ord',hC',hK,hV'⟩=>by
  have hbl:=hK.below hB (fun k hk=>(hC.cf k hk).1)
  refine ⟨he,hbl,⟨V',ord',hC',fun h=>?_⟩,hF.below hbl,Nat.le_trans hB hbl.size,(hK.block b hb ?_).trans ho,Nat.lt_of_lt_of_le hb hK.size⟩
  ·rcases hV' b h with h|h
   ·exact hV h
   ·omega
  ·rintro (h|h|h)
   ·exact h1 h
   ·exact h2 h
   ·exact hV h
theorem zXV {q:Option Addr} {p g room:Int} {bc bm b B:Nat} {o:Option Obj} (W W':World) (h:zXU q p g room bc bm b B o W) (hb:Below W.heap.size W W'):zXU q p g room bc bm b B o W':=by
 obtain ⟨⟨V,ord,hC,hV⟩,hF,hB,ho,hl⟩:=h
 exact ⟨⟨V,ord,hC.keep hb,hV⟩,hF.below (hb.mono hB),Nat.le_trans hB hb.size,(hb.block b hl).trans ho,Nat.lt_of_lt_of_le hl hb.size⟩
end
end Go.Proofs.YtmalmijdjhkklaaGreat
