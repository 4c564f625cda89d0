/- NamesTells: notes are read as the document says, for any names, any texts. -/
import Derived.Test.YtjofogblgjhcfaaNamesRef
import Derived.Test.YtjofogblgjhcfaaQx10
namespace Go.Proofs.Ytjofogblgjhcfaa.Pure
open Go.RowKit Go.Proofs.YtjofogblgjhcfaaW.PrintWords Go.Proofs.Ytjofogblgjhcfaa.Q Go.Proofs.Ytjofogblgjhcfaa.Plain

theorem nt_j1 {s note : ByteArray} (hs : Small s) (hn : Small note) (rank : Int) (spec : List Int) (r : Int) (h : spec.length < 35184372088832) :
    Ev (fun k => parquetrylaw9_NamesTells.j1 k s note rank spec r) true := by
  have hx : Small (⟨#[120, 195, 169, 122]⟩ : ByteArray) := by unfold Small; decide
  refine Ev.step (f := fun k => (parquetrylaw9_same.f k s note rank spec r).bind fun t243 => (if t243 = true then ((parquetrylaw9_same.f k s note (Go.bits .and .i64 rank 3) spec r).bind fun t244 => (if t244 = true then ((parquetrylaw9_same.f k (⟨#[120, 195, 169, 122]⟩ : ByteArray) note (Go.bits .and .i64 rank 3) spec r).bind fun t245 => (if t245 = true then ((parquetrylaw9_same.f k s s (Go.bits .and .i64 rank 3) ([] : List Int) r).bind fun t246 => (if t246 = true then ((parquetrylaw9_known.f k).bind fun t247 => (if t247 = true then (some true) else (none))) else (none))) else (none))) else (none))) else (none))) (fun k => by simp only [parquetrylaw9_NamesTells.j1]) ?_
  refine Ev.bind (law9_same hs hn rank spec r h) (Ev.congr (fun k => by rw [if_pos rfl]) ?_)
  refine Ev.bind (law9_same hs hn _ spec r h) (Ev.congr (fun k => by rw [if_pos rfl]) ?_)
  refine Ev.bind (law9_same hx hn _ spec r h) (Ev.congr (fun k => by rw [if_pos rfl]) ?_)
  refine Ev.bind (law9_same hs hs _ [] r (by simp)) (Ev.congr (fun k => by rw [if_pos rfl]) ?_)
  exact law9_end

theorem nt_j0 {s note : ByteArray} (hs : Small s) (rank : Int) (spec : List Int) (r : Int) (h : spec.length < 35184372088832) :
    Ev (fun k => parquetrylaw9_NamesTells.j0 k s note rank spec r) true := by
  by_cases hc : (note.size : Int) > 60
  · have hn : Small (note.extract 0 60) := by
      unfold Small
      rw [ByteArray.size_extract]
      omega
    refine Ev.step (fun k => ?_) (nt_j1 hs hn rank spec r h)
    simp only [parquetrylaw9_NamesTells.j0]
    rw [if_pos hc, if_pos (by omega), if_pos (by omega)]
  · have hn : Small note := by unfold Small; omega
    refine Ev.step (fun k => ?_) (nt_j1 hs hn rank spec r h)
    simp only [parquetrylaw9_NamesTells.j0]
    rw [if_neg hc]

theorem NamesTells : parquetrylaw9_NamesTells.Pure := by
  intro a0 a1 a2 l3 a4 h0 h1 h2 h3 h4 h5 h6
  refine Ev.rounds (g := fun k => parquetrylaw9_NamesTells.f k a0 a1 a2 l3 a4) ?_
  unfold parquetrylaw9_NamesTells.f
  have hl : l3.length < 35184372088832 := by omega
  by_cases hc : (a0.size : Int) > 30
  · have hs : Small (a0.extract 0 30) := by
      unfold Small
      rw [ByteArray.size_extract]
      omega
    refine Ev.congr (fun k => ?_) (nt_j0 (note := a1) hs a2 l3 a4 hl)
    rw [if_pos hc, if_pos (by omega), if_pos (by omega)]
  · have hs : Small a0 := by unfold Small; omega
    exact Ev.congr (fun k => by rw [if_neg hc]) (nt_j0 (note := a1) hs a2 l3 a4 hl)

end Go.Proofs.Ytjofogblgjhcfaa.Pure
