/- Texts of the claim. -/
import Derived.Test.YtmleeodfmmpdgaaGreatDoorQ01

