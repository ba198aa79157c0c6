/- What laws' first checks need: the field of 5. -/
import Derived.Test.YtmalmijdjhkklaaGreatW20
import Derived.Test.YtmalmijdjhkklaaGreatW39
import Derived.Test.YtmalmijdjhkklaaGreatW25
import Derived.Test.YtmalmijdjhkklaaGreatW51
import Derived.Test.YtmalmijdjhkklaaGreatW10
set_option linter.unusedVariables false
set_option linter.unusedSimpArgs false
namespace Go.Proofs.YtmalmijdjhkklaaGreat
open Go.RowKit
section
open Alg
theorem Cert.nat {q:Nat} {g:Int} (h:Cert (q:Int) g):Prime q∧ ∀ [NeZero q],Ord (zt q g) (q-1):=h.prime
theorem RdU.lit (w:World) (xs:List Int):RdI (w.alloc (.cells (ints .u64 xs).toArray 22)) (w.heap.size+1) .u64 (some ⟨w.heap.size,0,none⟩) xs:=fun _=>by
 refine ⟨w.heap.size,0,rfl,by omega,fun j hj=>?_⟩
 rw [Nat.zero_add,World.cell?_alloc_at _ _ _ _ rfl]
 simp [ints,hj,List.getD_eq_getElem?_getD]
end

section
open Alg
theorem zPd:Prime 97:=zVv (d:=10) (by omega) (by omega) (fun c a b=>by
 rcases (show c=2∨c=3∨c=4∨c=5∨c=6∨c=7∨c=8∨c=9 by omega) with rfl|rfl|rfl|rfl|rfl|rfl|rfl|rfl <;> omega)
theorem zOZ:Prime 2:=zVv (d:=2) (by omega) (by omega) (fun c a b=>by omega)
theorem zIu (p g:Nat) (h:((List.range p).all fun q=>decide (q<2) || !decide (q∣p-1) || decide ((g:Int)^((p-1)/q)%(p:Int)≠1))=true) (hp:2≤p): ∀q,Prime q→q∣p-1→(g:Int)^((p-1)/q)%(p:Int)≠1:=fun q hq hd=>by
 have h1:=Nat.le_of_dvd (by omega) hd
 have h2:=List.all_eq_true.1 h q (List.mem_range.2 (by omega))
 have:=hq.1
 simp only [Bool.or_eq_true,decide_eq_true_eq,Bool.not_eq_true',decide_eq_false_iff_not] at h2
 rcases h2 with (h2|h2)|h2
 ·omega
 ·exact absurd hd h2
 ·exact h2
theorem zIs:IsGen 97 5:=by
 refine ⟨by omega,zIu 97 5 (by decide +kernel) (by omega),fun h a b=>?_⟩
 intro H
 rcases (show h=2∨h=3∨h=4 by omega) with rfl|rfl|rfl <;> exact H 2 zOZ (by decide) (by decide +kernel)
theorem zM9:OddP 97:=⟨by decide,by decide,zPd⟩
theorem zTY (p:Int) (g:Nat) (hg:IsGen p.toNat g) (ho:OddP p) (w:World):Calls Tryz.prog 48 #[.int .u64 p] w fun r w'=> ∃v,r= .returned (.tuple #[v, .int .i64 0])∧Cert p g∧Fd w' w'.heap.size v p g∧Below w.heap.size w w':=by
 have h1:=ho.1
 have h2:=ho.2.1
 refine (zAP p w (by omega) (by omega)).mono ?_
 rintro r w' (⟨_,g',hg',hM⟩|⟨hn,_⟩)
 ·obtain rfl:g'=g:=hg'.unique hg
  obtain ⟨hB,⟨er,h0,_⟩|⟨v,_,hc,hr,hF⟩⟩:=hM
  ·omega
  ·exact ⟨v,hr,hc,hF,hB⟩
 ·exact absurd ho hn
end
end Go.Proofs.YtmalmijdjhkklaaGreat
