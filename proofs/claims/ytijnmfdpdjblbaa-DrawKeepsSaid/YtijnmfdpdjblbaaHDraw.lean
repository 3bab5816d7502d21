/- What the hand-made contracts of this seat need beside the print's words. -/
import Derived.Shelf.Abstract
